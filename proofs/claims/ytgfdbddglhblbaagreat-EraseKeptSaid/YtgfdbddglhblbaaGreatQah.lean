/- A part of the proof of what is stated of the erasing of a mirror. -/
import Derived.Test.YtgfdbddglhblbaaGreatQag
import Derived.Lib.UnsafeStr
import Derived.Lib.Builder
import Derived.Laws.MakeOwn
import Derived.Lib.AppendZerosOnto
set_option maxHeartbeats 64000000
namespace Go.Eng
open Go.RowKit (Below)
structure Le (xs:List D)(a b:Prop):Prop where out:(xs=[]→a)∧(xs≠[]→b)
theorem pN {xs:List D}{a b:Prop}(h1:xs=[]→a)(h2:xs≠[]→b):Le xs a b:=⟨h1,h2⟩
def Hc (ng t:Bool)(K:AV→Prop):Prop:=match ng,t with|false,t=>K (.d (.b t))|true,true=>K (.d (.b false))|true,false=>K (.d (.b true))
def Gi (C:cq)(st:AS)(kd:Kd)(ng:Bool)(a b:AV)(K:AV→List Nat→Prop)(alt:Prop):Prop:=match kd with
 |.slice _=>match a,b with
  |.nl _,.nl _=>Hc ng true fun r=>K r []|.d (.sl _ xs),.nl _=>Le xs (K .ab []) (Hc ng false fun r=>K r [])|.os k,.nl _=>iH st k fun e=>match e with|.buf _ xs _=>Le xs (K .ab [k]) (Hc ng false fun r=>K r [k])|_=>False
  |_,_=>False
 |.ptr e=>match a,b with
  |.op k i j,.op k' i' j'=>aW C.tab e fun _=>match Nat.beq k k',Nat.beq i i',Nat.beq j j' with|true,true,true=>Hc ng true fun r=>K r []|_,_,_=>False
  |.op _ _ _,.d (.x v)=>(match v with|.pointer none=>Hc ng false fun r=>K r []|_=>False)|.pp _ _,.d (.x v)=>(match v with|.pointer none=>Hc ng false fun r=>K r []|_=>False)|.d (.x v),.d (.x v')=>(match v,v' with|.pointer none,.pointer none=>Hc ng true fun r=>K r []|_,_=>False)|_,_=>False
 |.func=>match a,b with
  |.fn _ _ _,.d (.x v)=>(match v with|.nilFunc=>Hc ng false fun r=>K r []|_=>False)|.d (.x v),.d (.x v')=>(match v,v' with|.nilFunc,.nilFunc=>Hc ng true fun r=>K r []|_,_=>False)|_,_=>False
 |_=>alt
structure EqTy (P:Program)(T:TypeId)(x y:D)(t:Bool):Prop where
 guard:P.eqGuardType P.depth T=false
 run:∀(w:World)(X:Nat→Prop)(va vb:Value),Rd w X x va→Rd w X y vb→(Op.equal T va vb).run P w=.ok t w
structure EqAgK (P:Program)(T:TypeId)(x y:D)(K:Bool→Prop):Prop where out:∃t,EqTy P T x y t∧f9 t K
def Ml (ng t:Bool)(K:AV→Prop):Prop:=match ng,t with|false,true=>K (.d (.b true))|false,false=>K (.d (.b false))|true,true=>K (.d (.b false))|true,false=>K (.d (.b true))
theorem FJ {ng t:Bool}{K:AV→Prop}(h:Ml ng t K):K (.d (.b (ng !=t))):=by unfold Ml at h;cases ng<;>cases t<;>exact h
def uZ (C:cq)(T:TypeId)(ng:Bool)(a b:AV)(K:AV→List Nat→Prop):Prop:=match a,b with|.d (.agg xs),.d (.agg ys)=>EqAgK C.P T (.agg xs) (.agg ys) fun t=>Ml ng t fun r=>K r []|_,_=>False
def Ax (C:cq)(st:AS)(op:BinOp)(T:TypeId)(a b:AV)(K:AV→List Nat→Prop):Prop:=match op with
 |.eql=>aW C.tab T fun ti=>match ti.agg with|true=>uZ C T false a b K|false=>Gi C st ti.kd false a b K (xH C T .eql a b fun r=>K r [])
 |.neq=>aW C.tab T fun ti=>match ti.agg with|true=>uZ C T true a b K|false=>Gi C st ti.kd true a b K (xH C T .neq a b fun r=>K r [])
 |op=>xH C T op a b fun r=>K r []
theorem Jl {P:Program}{T:TypeId}{ti:iQ}{e:Nat}(ht:eD P T ti)(hk:ti.kd=.ptr e):P.underlying T=some (.pointer e):=by obtain⟨_,u,hu,_,hc⟩:=ht;rw[hk] at hc;cases u<;>simp[j6] at hc;rw[hu,hc]
theorem Ez {P:Program}{T:TypeId}{ti:iQ}(ht:eD P T ti)(hk:ti.kd=.func):∃a b c,P.underlying T=some (.func a b c):=by obtain⟨_,u,hu,_,hc⟩:=ht;rw[hk] at hc;cases u<;>simp[j6] at hc;exact⟨_,_,_,hu⟩
theorem kP {st:AS}{x:Operand}{K:AV→Prop}(h:fF st x K):∃av,(∀K':AV→Prop,K' av→fF st x K')∧K av:=by
 unfold fF at*;split at h;·rename_i t;obtain⟨v,hv,hk⟩:=aJ h;refine⟨v,fun K' h'=>?_,hk⟩;clear h hk;show aW st.env t K';generalize st.env=l at hv;induction l with|nil=>simp[look] at hv;|cons y l ih=>
   obtain⟨y,u⟩:=y;simp only[look] at hv;simp only[aW];split at hv;·rename_i hb;(try simp only[hb]);cases hv;exact h'
   ·rename_i hb;(try simp only[hb]);exact ih hv
 ·unfold vv at*;split at h;·exact⟨_,fun K' h'=>h',h⟩
  ·exact⟨_,fun K' h'=>h',h⟩
  ·exact⟨_,fun K' h'=>h',h⟩
  ·exact⟨_,fun K' h'=>h',h⟩
  ·exact⟨_,fun K' h'=>h',h⟩
 ·exact⟨_,fun K' h'=>h',h⟩
 ·exact⟨_,fun K' h'=>h',h⟩
def Ay (ng:Bool):BinOp:=match ng with|true=>.neq|false=>.eql
theorem qL {P:Program}{w:World}{T:TypeId}{x y:Value}{t:Bool}(h:∀d:Nat,(Op.equalIn (d+1) T x y).run P w=.ok t w)(hx:(∃a,x=.pointer a)∨(∃a b c,x=.slice a b c)∨(∃a b c,x=.func a b c)∨x=.nilFunc)(ng:Bool)(ox oy:Operand):(do eqGuard (Ay ng) T ox oy x y;binOp (Ay ng) T x y:Sem Value).run P w=.ok (.bool (ng !=t)) w:=by have e:(Op.equal T x y).run P w=.ok t w:=h 9999;rcases hx with⟨a,rfl⟩|⟨a,b,c,rfl⟩|⟨a,b,c,rfl⟩|rfl<;>cases ng<;>simp[Ay,eqGuard,binOp,e]
theorem gA {ng t:Bool}{K:AV→Prop}(h:Hc ng t K):K (.d (.b (ng !=t))):=by unfold Hc at h;cases ng<;>cases t<;>exact h
section
variable {C:cq}{n:Nat}{o:Oper}{nm:Nat}{st:AS}{K:KO}
def J9 (C:cq)(st:AS)(ng:Bool)(T:TypeId)(a b:AV)(out:AV)(rd:List Nat):Prop:=∀{G:List Gl}{X0:Nat→Prop}{F:Fr}{w0:World}{n:Nat}{p:Nat→Prop}{α:Nat→dh}{S:SS}{a':Act}{w:World},dn G X0 F w0 n p α S a' w→(∀k,k∈rd→∀e,st.ss.own k=some e→S.own k=some e)→∀va vb,co w α (XX α S.own X0) a va→co w α (XX α S.own X0) b vb→∀(ox oy:Operand),∃v,(do eqGuard (Ay ng) T ox oy va vb;binOp (Ay ng) T va vb:Sem Value).run C.P w=.ok v w∧co w α (XX α S.own X0) out v∧out.ok p
theorem lR {T:TypeId}{ng t:Bool}{a b:AV}(h:∀{w:World}{α:Nat→dh}{X:Nat→Prop} va vb,co w α X a va→co w α X b vb→(∀d:Nat,(Op.equalIn (d+1) T va vb).run C.P w=.ok t w)∧((∃a,va=.pointer a)∨(∃a b c,va=.slice a b c)∨(∃a b c,va=.func a b c)∨va=.nilFunc)):J9 C st ng T a b (.d (.b (ng !=t))) []:=by intro G X0 F w0 n p α S a' w hs _ va vb ha hb ox oy;obtain⟨h1,h2⟩:=h va vb ha hb;exact⟨_,qL h1 h2 ng ox oy,.d _ _ (.b _),.d _⟩
theorem GK {ti:iQ}{T:TypeId}{ng:Bool}(ht:eD C.P T ti){a b:AV}{Q:AV→List Nat→Prop}{alt:Prop}(h:Gi C st ti.kd ng a b Q alt):alt∨∃out rd,Q out rd∧J9 C st ng T a b out rd:=by
 unfold Gi at h;split at h
 ·rename_i e hk;right;have hu:=cM ht hk;split at h;·refine⟨_,_,gA h,lR fun va vb ha hb=>?_⟩;cases ha;cases hb;exact⟨fun d=>by simp[Op.equalIn,run_underlying hu],.inr (.inl ⟨_,_,_,rfl⟩)⟩
  ·rename_i xs _;by_cases hx:xs=[];·refine⟨_,_,h.out.1 hx,fun hs _ va vb ha hb ox oy=>?_⟩;subst hx;obtain⟨p,c,rfl⟩:=ha.dinv.slinv;cases hb;refine⟨_,qL (t:=p.isNone) (fun d=>?_) (.inr (.inl ⟨_,_,_,rfl⟩)) ng ox oy,.ab _,.ab⟩;cases p<;>simp[Op.equalIn,run_underlying hu]
   ·refine⟨_,_,gA (h.out.2 hx),fun hs _ va vb ha hb ox oy=>?_⟩;have hd:=ha.dinv;cases hb;cases hd with|slnil=>exact absurd rfl hx;|sle=>exact absurd rfl hx;|sl=>exact⟨_,qL (t:=false) (fun d=>by simp[Op.equalIn,run_underlying hu]) (.inr (.inl ⟨_,_,_,rfl⟩)) ng ox oy,.d _ _ (.b _),.d _⟩
  ·rename_i k _;replace h:=cQ h;obtain⟨en,hen,h⟩:=h;split at h
   ·rename_i sz xs T0;by_cases hx:xs=[];·refine⟨_,_,h.out.1 hx,fun hs ho va vb ha hb ox oy=>?_⟩;have hsk:=ho k (by simp) _ hen;cases hb;obtain⟨p,c,hv⟩:=yQ hs hsk;cases ha;rw[hv];refine⟨_,qL (t:=p.isNone) (fun d=>?_) (.inr (.inl ⟨_,_,_,rfl⟩)) ng ox oy,.ab _,.ab⟩;cases p<;>simp[Op.equalIn,run_underlying hu]
    ·refine⟨_,_,gA (h.out.2 hx),fun hs ho va vb ha hb ox oy=>?_⟩;have hsk:=ho k (by simp) _ hen;cases hb;cases ha;rcases hs.own k _ hsk with⟨_,⟨sz',_,he⟩,_⟩|⟨_,arr,U,fz,cap,hB⟩;·cases he;exact absurd rfl hx
     ·rw[hB.hv sz xs _ rfl];exact⟨_,qL (t:=false) (fun d=>by simp[Op.equalIn,run_underlying hu]) (.inr (.inl ⟨_,_,_,rfl⟩)) ng ox oy,.d _ _ (.b _),.d _⟩
   ·cases h
  ·cases h
 ·rename_i e hk;right;have hu:=Jl ht hk;split at h
  ·rename_i k i j k' i' j';replace h:=aJ h;obtain⟨te,hte,h⟩:=h;split at h;·rename_i h1 h2 h3;obtain rfl:=Nd h1;obtain rfl:=Nd h2;obtain rfl:=Nd h3;obtain⟨⟨ie,hie,_⟩,_⟩:=C.ty hte;refine⟨_,_,gA h,lR fun va vb ha hb=>?_⟩;cases ha;cases hb;exact⟨fun d=>by simp[Op.equalIn,run_underlying hu,sizeOf,typeInfo,hie,run_sameAddr_same],.inl ⟨_,rfl⟩⟩
   ·cases h
  ·split at h;·refine⟨_,_,gA h,lR fun va vb ha hb=>?_⟩;cases ha;have hb:=hb.dinv;cases hb;exact⟨fun d=>by simp[Op.equalIn,run_underlying hu],.inl ⟨_,rfl⟩⟩
   ·cases h
  ·split at h;·refine⟨_,_,gA h,lR fun va vb ha hb=>?_⟩;cases ha;have hb:=hb.dinv;cases hb;exact⟨fun d=>by simp[Op.equalIn,run_underlying hu],.inl ⟨_,rfl⟩⟩
   ·cases h
  ·split at h;·refine⟨_,_,gA h,lR fun va vb ha hb=>?_⟩;have ha:=ha.dinv;cases ha;have hb:=hb.dinv;cases hb;exact⟨fun d=>by simp[Op.equalIn,run_underlying hu],.inl ⟨_,rfl⟩⟩
   ·cases h
  ·cases h
 ·rename_i hk;right;obtain⟨f1,f2,f3,hu⟩:=Ez ht hk;split at h
  ·split at h;·refine⟨_,_,gA h,lR fun va vb ha hb=>?_⟩;cases ha;have hb:=hb.dinv;cases hb;exact⟨fun d=>by simp[Op.equalIn,run_underlying hu],.inr (.inr (.inl ⟨_,_,_,rfl⟩))⟩
   ·cases h
  ·split at h;·refine⟨_,_,gA h,lR fun va vb ha hb=>?_⟩;have ha:=ha.dinv;cases ha;have hb:=hb.dinv;cases hb;exact⟨fun d=>by simp[Op.equalIn,run_underlying hu],.inr (.inr (.inr rfl))⟩
   ·cases h
  ·cases h
 ·exact .inl h
theorem DL {op:BinOp}{T T':TypeId}{x y:Operand}(ho:o.op=.binOp op T x y T')(h:fF st x fun a=>fF st y fun b=>Ax C st op T a b fun r rd=>K r [] rd):∃out upd rd,K out upd rd∧cr C n o nm st rd out upd:=by
 obtain⟨va,hb1,h⟩:=kP h;obtain⟨vb,hb2,h⟩:=kP h;have old:xH C T op va vb (fun r=>K r [] [])→∃out upd rd,K out upd rd∧cr C n o nm st rd out upd:=fun h'=>IB ho (hb1 _ (hb2 _ h'));obtain⟨a0,e1,h1⟩:=bx (hb1 (fun a=>a=va) rfl);obtain⟨b0,e2,h2⟩:=bx (hb2 (fun a=>a=vb) rfl);subst h1 h2;have new:∀ng,op=Ay ng→(aW C.tab T fun ti=>match ti.agg with|true=>uZ C T ng a0 b0 (fun r rd=>K r [] rd)|false=>Gi C st ti.kd ng a0 b0 (fun r rd=>K r [] rd) (xH C T op a0 b0 fun r=>K r [] []))→∃out upd rd,K out upd rd∧cr C n o nm st rd out upd:=by
  rintro ng hop h;replace h:=aJ h;obtain⟨ti,hti,h⟩:=h;split at h
  ·unfold uZ at h;split at h;·rename_i xs ys;obtain⟨t,hE,h⟩:=h;replace h:=FJ h.1;refine⟨_,_,_,h,cr.pure fun X0 F w0 p α S a w hs he ho'=>?_⟩;have hx:=((e1.to (by rw[ho];simp[Op.operands]) he).read hs).dinv;have hy:=((e2.to (by rw[ho];simp[Op.operands]) he).read hs).dinv;have hr:=hE.run w _ _ _ hx hy;generalize hvx:a.eval x=vx at hx hr;generalize hvy:a.eval y=vy at hy hr;cases hx with|agg _ vs _ _=>cases hy with|agg _ us _ _=>refine⟨.bool (ng !=t),?_,.d _ _ (.b _),.d _⟩;have hg:C.P.eqGuardType C.P.depth T=false:=hE.guard;cases ng<;>simp[execOp,ho,hop,Ay,hvx,hvy,eqGuard,binOp,run_program,hg,hr,Result.andThen]
   ·cases h
  rcases GK (C.ty hti) h with h|⟨out,rd,h,hE⟩;·exact old h
  ·refine⟨_,_,_,h,cr.pure fun X0 F w0 p α S a w hs he ho'=>?_⟩;have hx:=(e1.to (by rw[ho];simp[Op.operands]) he).read hs;have hy:=(e2.to (by rw[ho];simp[Op.operands]) he).read hs;obtain⟨v,h5,h6,h7⟩:=hE hs ho' _ _ hx hy x y;refine⟨v,?_,h6,h7⟩;simp only[execOp,ho,Sem.run_bind,hop];simp only[Sem.run_bind] at h5;rw[h5];simp[Result.andThen]
 unfold Ax at h;split at h;·exact new false rfl h
 ·exact new true rfl h
 ·exact old h
theorem v8 (w:World)(p:Addr)(n:Nat):(w.freeze p n).os=w.os∧(w.freeze p n).tape=w.tape∧(w.freeze p n).output=w.output∧(w.freeze p n).heap.size=w.heap.size∧∀b,b≠p.block→(w.freeze p n).heap[b]?=w.heap[b]?:=by
 unfold World.freeze;split;·exact⟨rfl,rfl,rfl,rfl,fun _ _=>rfl⟩
 ·refine⟨rfl,rfl,rfl,by simp,fun b hb=>?_⟩;simp only[Array.getElem?_modify];rw[if_neg fun h=>hb h.symm]
end
end Go.Eng
namespace Go.Eng
open Go.MapKept
def insI (ks:List Int)(n:Int):List Int:=if n∈ks then ks else ks++[n]
def hasI (ks:List Int)(n:Int):Bool:=decide (n∈ks)
section
variable {P:Program}{w:World}{mty kt et:TypeId}{b:Nat}{o:Obj}{ks:List Int}
end
section
variable {C:cq}{n:Nat}{o:Oper}{nm:Nat}{st:AS}{K:KO}
def zV (C:cq)(T:TypeId)(A:Prop):Prop:=aW C.tab T fun ti=>match ti.kd with|.map k e=>aW C.tab k fun tk=>aW C.tab e fun te=>(match tk.kd,te.kd with|.int .i64,.bool=>A|_,_=>False)|_=>False
structure ZbK (C:cq)(T:TypeId)(A:Prop):Prop where out:(∃k e,C.P.underlying T=some (.map k e)∧∀w,(zeroValue e).run C.P w=.ok (.bool false) w)∧A
def MR (a:AV)(K:Int→Prop):Prop:=match a with|.d (.i .i64 i)=>K i|_=>False
def lookupK (C:cq)(st:AS)(T:TypeId)(m k:AV)(ok:Bool)(K:KO):Prop:=match m,ok with|.os b,false=>zV C T (MR k fun i=>iH st b fun en=>match en with|.iset ks=>ZbK C T (K (.d (.b (hasI ks i))) [] [b])|_=>False)|_,_=>False
def mapUpdK (C:cq)(st:AS)(T:TypeId)(m k v:AV)(K:KO):Prop:=match m,v with|.os b,.d (.b true)=>zV C T (MR k fun i=>iH st b fun en=>match en with|.iset ks=>K .any [(b,some (.iset (insI ks i)))] [b]|_=>False)|_,_=>False
def deleteK (C:cq)(st:AS)(T:TypeId)(m k:AV)(K:KO):Prop:=match m with|.os b=>zV C T (MR k fun i=>iH st b fun en=>match en with|.iset ks=>K .any [(b,some (.iset (ks.erase i)))] [b]|_=>False)|_=>False
structure MkK (l c:Int)(bytes:Nat)(K:Nat→Prop):Prop where out:∃j:Nat,l=(j:Int)∧l≤c∧c≤9223372036854775807∧(bytes:Int)*c≤281474976710656∧K j
def qa (C:cq)(nm:Nat)(T:TypeId)(l c:AV)(K:KO):Prop:=aW C.tab T fun ti=>match ti.kd with
 |.slice e=>aW C.tab e fun te=>nC l fun _ i=>nC c fun _ j=>If te.zero fun z=>match te.agg,z with
  |true,z=>(match Nat.beq z.length te.size,Nat.ble 1 te.size with|true,true=>MkK i j te.bytes fun m=>K (.os (16*nm)) [(16*nm,some (.buf te.size (List.replicate m (.agg z)) (some e)))] []|_,_=>False)|false,[d]=>(match Nat.beq te.size 1 with|true=>MkK i j te.bytes fun m=>K (.os (16*nm)) [(16*nm,some (.buf 1 (List.replicate m d) (some e)))] []|false=>False)|_,_=>False
 |_=>False
theorem HW {T:TypeId}{l c:Operand}(ho:o.op=.makeSlice T l c)(h:fF st l fun a=>fF st c fun b=>qa C nm T a b K):∃out upd rd,K out upd rd∧cr C n o nm st rd out upd:=by
 replace h:=bx h;obtain⟨va,h1,h⟩:=h;replace h:=bx h;obtain⟨vb,h2,h⟩:=h;unfold qa at h;replace h:=aJ h;obtain⟨ti,hti,h⟩:=h;split at h
 ·rename_i e hk;replace h:=aJ h;obtain⟨te,hte,h⟩:=h;unfold nC at h;split at h
  ·rename_i k1 i;split at h
   ·rename_i k2 j;replace h:=vB h;obtain⟨z,h,hzl,hzo,hzr⟩:=h;have hu:=cM (C.ty hti) hk;obtain⟨⟨ie,hie,hies,hieb,zv,hz,hzz⟩,_⟩:=C.ty hte;have fin:∀(x:D),x.cells=z→z.length=te.size→1≤te.size→MkK i j te.bytes (fun m=>K (.os (16*nm)) [(16*nm,some (.buf te.size (List.replicate m x) (some e)))] [])→∃out upd rd,K out upd rd∧cr C n o nm st rd out upd:=by
     rintro x hx hzn hpos ⟨m,rfl,hle,hc1,hc2,hK⟩;obtain⟨cc,rfl⟩:∃cc:Nat,j=(cc:Int):=⟨j.toNat,by omega⟩;have hmc:m≤cc:=by omega
     have hzsz:zv.cells.size=te.size:=by have:=(kR hzz).1;simp at this;omega
     refine⟨_,_,_,hK,cr.make (e:=.buf te.size (List.replicate m x) (some e)) (kills:=[]) (fun _ hk=>by cases hk) (.inl rfl) fun X0 F w0 p α S a w hs he _=>?_⟩;have hl':=((h1.to (by rw[ho];simp[Op.operands]) he).read hs).dinv.iinv;have hc':=((h2.to (by rw[ho];simp[Op.operands]) he).read hs).dinv.iinv;have hwx:x.wd te.size:=⟨by rw[hx];exact hzn,by rw[hx];exact hzo⟩;have hw1:IntKind.i64.wrap (m:Int)=m:=gJ (by omega) (by omega);have hw2:IntKind.i64.wrap (cc:Int)=cc:=gJ (by omega) (by omega);have hS:(sizeOf e).run C.P w=.ok te.size w:=by simp[sizeOf,typeInfo,hie,hies]
     let arr:Array Value:=madeCells zv.cells (cc*te.size);have hrun:(Instr.makeSlice T (.int k1 (m:Int)) (.int k2 (cc:Int))).run C.P w=.ok (.slice (some ⟨w.heap.size,0,none⟩) m cc) (w.alloc (.cells arr e)):=by have:=run_make (P:=C.P) w T e ie zv hu hie hz k1 k2 (m:Int) (cc:Int) (by omega) (by omega) (by rw[hieb];exact hc2) hc1;rw[hies] at this;simpa using this
     refine⟨w.alloc (.cells arr e),_,arr,e,(0,0),cc,⟨rfl,rfl,rfl,rfl,by simp[aS.len,hmc],by simp[aS.sz,arr,madeCells],⟨Nat.le_refl _,fun o _=>by simp⟩,?_,fun q r c hc=>?_,(fun x hx=>by cases hx),?_,rfl,fun V hV=>?_⟩,by simp[execOp,ho,hl',hc',hrun];rfl⟩
     ·intro q y hy;rw[List.getElem?_replicate] at hy;split at hy;·cases hy;exact hwx
      ·cases hy
     ·simp only[aS.cell,Nu,Nk] at hc;obtain⟨y,hy,d,hd,rfl⟩:=hc;rw[List.getElem?_replicate] at hy;split at hy
      ·cases hy;rename_i hq;rw[hx] at hd;have hr:r<te.size:=by rw[←hzn];exact(Nc.1 hd).1
       have hlt:q*te.size+r<cc*te.size:=by have:(q+1)*te.size≤cc*te.size:=Nat.mul_le_mul_right _ (by omega);rw[Nat.add_mul] at this;omega
       have hmod:(q*te.size+r)%zv.cells.size=r:=by rw[hzsz,Nat.mul_comm,Nat.mul_add_mod,Nat.mod_eq_of_lt hr]
       refine⟨zv.cells[r]'(by omega),?_,.d _ _ ?_⟩;·simp[aS.sz,arr,madeCells,hlt,hmod,show r<zv.cells.size by omega]
       ·refine hzr w α _ r d ((te.zero)[r]'(by rw[←hzl];omega)) _ hd (by simp) ?_;have:=(kL (w:=w) (α:=α) (X:=XX α S.own X0) hzz).2 r ((te.zero)[r]'(by rw[←hzl];omega)) (zv.cells[r]'(by omega)) (by simp) (by simp);exact this
      ·cases hy
     ·intro sz xs V hV;cases hV;simp
     ·cases hV;exact⟨rfl,fun cs V h=>by cases h⟩
    split at h
    ·rename_i hagg;split at h;·rename_i hb1 hb2;exact fin (.agg _) rfl (Nd hb1) (Nat.le_of_ble_eq_true hb2) h
     ·cases h
    ·rename_i zl' d hagg;split at h;·rename_i hb;have hb:=Nd hb;rw[←hb] at h;refine fin d (fR (hzo d (by simp))) (by simp[hb]) (by omega) ?_;simpa[hb] using h
     ·cases h
    ·cases h
   ·cases h
  ·cases h
 ·cases h
def KS:List AV→Bool|[]=>false|a::l=>match a with|.os _=>true|_=>KS l
def Ar:List (Nat×Operand)→List Operand|[]=>[]|x::r=>x.2::Ar r
def ixB:List (Nat×Operand)→Nat→Bool|[],_=>true|x::r,i=>Nat.beq x.1 i&&ixB r (i+1)
theorem lh:∀ps:List (Nat×Operand),Ar ps=ps.map (·.2)|[]=>rfl|x::r=>by simp[Ar,lh r]
theorem BF:∀{ps:List (Nat×Operand)}{i:Nat},ixB ps i=true→∀j x,ps[j]?=some x→x.1=i+j|[],_,_,j,x,h=>by simp at h;|y::r,i,h,j,x,hx=>by simp only[ixB,Bool.and_eq_true] at h;cases j with|zero=>simp at hx;subst hx;exact Nd h.1;|succ j=>have:=BF h.2 j x (by simpa using hx);omega
theorem x8:∀(parts:List (Nat×Value))(k:Nat)(cells:Array Value),(∀j x,parts[j]?=some x→x.1=k+j∧x.2.oneCell'=true)→cells.size=k+parts.length→Instr.fill (fun i=>some (i*1,1)) cells parts=some (cells.extract 0 k++(parts.map (·.2)).toArray)
 |[],k,cells,_,hs=>by simp[Instr.fill];simp at hs;rw[←hs,Array.extract_size];|(i,v)::r,k,cells,hp,hs=>by
  obtain⟨h1,h2⟩:=hp 0 (i,v) rfl;simp only[Nat.add_zero] at h1 h2;subst h1;have hc:=nR h2;simp only[Nb] at hs;unfold Instr.fill;simp only[hc];rw[if_neg (by simp;omega)];have:=x8 r (i+1) (cells.setIfInBounds (i*1+0) v) (fun j x hx=>by have:=hp (j+1) x (by simpa using hx);exact⟨by omega,this.2⟩) (by simp;omega);simp at this⊢;rw[this];congr 1;apply Array.ext';have hlt:i<cells.size:=by omega
  simp only[Array.toList_append,Array.toList_extract,Array.toList_setIfInBounds,List.extract_eq_take_drop,List.drop_zero,Nat.sub_zero];rw[Nh (by simpa using hlt),List.take_set,List.set_eq_of_length_le (by simp;exact Nat.min_le_left _ _),List.getElem_set_self];simp
theorem pS {k:Nat}:∀{us:List Nat},k∈us→(look (us.map fun k=>(k,(none:Option aS))) k).isSome=true
 |x::l,hk=>by
  simp only[Nw,look];split;·rfl
  ·rename_i hb;rcases List.mem_cons.1 hk with rfl|hk;·simp at hb
   ·exact pS hk
def HE (C : cq) (st : AS) (nm : Nat) (T : TypeId) (len : Nat) (ps : List (Nat × Operand)) (as : List AV) (K : KO) : Prop :=
  aW C.tab T fun ti => match ti.kd with
    | .slice e => aW C.tab e fun te => match te.agg, Nat.beq te.size 1, ixB ps 0, Nat.beq as.length len with
      | false, true, true, true => (match Nat.ble 1 len, Nat.ble len 16777216 with
        | true, true => p7 st as fun ds us => (match ds.all D.one with
          | true => K (.os (16 * nm)) ((16 * nm, some (.buf 1 ds)) :: tF us) us
          | false => False)
        | _, _ => False)
      | _, _, _, _ => False
    | _ => False
theorem Gq {T : TypeId} {len : Nat} {ps : Array (Nat × Operand)} (ho : o.op = .buildSlice T len ps) {as : List AV} (hev : Dr st.ss.env (Ar ps.toList) as) (h : HE C st nm T len ps.toList as K) :
    ∃ out upd rd, K out upd rd ∧ cr C n o nm st rd out upd := by
  have hmem : ∀ x, x ∈ Ar ps.toList → x ∈ o.op.operands := by
    intro x hx
    rw [lh] at hx
    obtain ⟨⟨i, y⟩, hy, rfl⟩ := List.mem_map.1 hx
    rw [ho]
    simp only [Op.operands, List.mem_toArray]
    exact List.mem_map.2 ⟨(i, y), hy, rfl⟩
  unfold HE at h
  replace h := aJ h; obtain ⟨ti, hti, h⟩ := h
  split at h
  · rename_i e hk
    have hu := cM (C.ty hti) hk
    replace h := aJ h; obtain ⟨te, hte, h⟩ := h
    split at h
    · rename_i hagg hsz hix hln
      have hsz := Nd hsz
      have hln := Nd hln
      have hix := BF hix
      split at h
      · rename_i hb1 hb2
        have hb1 := Nat.le_of_ble_eq_true hb1
        have hb2 := Nat.le_of_ble_eq_true hb2
        replace h := uf h; obtain ⟨ds, us, h, h2, h3, h4⟩ := h
        split at h
        · rename_i hone
          have hone := List.all_eq_true.1 hone
          obtain ⟨⟨ie, hie, hies, _, z, hz, hzl⟩, _⟩ := C.ty hte
          rw [xG] at h
          have hlk := gz (nm := nm) (e := aS.buf 1 ds) (kills := us)
          have hevl := hev.length
          rw [lh, Nl] at hevl
          refine ⟨_, _, _, h, fun k oe hl => ?_, fun X0 F w0 p α S a w Q next hs he ho' hp hd hn => ?_⟩
          · rcases hlk k oe hl with ⟨rfl, _⟩ | ⟨hk, _⟩
            · exact .inr (cI nm 0 (by omega))
            · exact .inl hk
          have hin : ∀ k, k ∈ us → (look ((16 * nm, some (aS.buf 1 ds)) :: us.map fun k => (k, none)) k).isSome = true := by
            intro k hk
            simp only [look]
            split
            · rfl
            · exact pS hk
          have hpn : ¬ p (16 * nm) := hp _ (cI nm 0 (by omega))
          let vs : List Value := (Ar ps.toList).map a.eval
          let hv : Value := .slice (some ⟨w.heap.size, 0, none⟩) len len
          let L : dh := ⟨w.heap.size, 0, 1, false, hv⟩
          have hLk : bK α (16 * nm) L (16 * nm) = L := by simp [bK]
          have hα : ∀ k, p k → bK α (16 * nm) L k = α k := by
            intro k hk
            have : k ≠ 16 * nm := fun h => hpn (h ▸ hk)
            simp [bK, this]
          have hval : ∀ (j : Nat) (d : D), ds[j]? = some d → ∃ v, vs[j]? = some v ∧ v.oneCell' = true ∧ ∀ X', (∀ b, X' b → XX α S.own X0 b) → (∀ k, k ∈ us → (α k).nil = false → ¬ X' (α k).blk) → Rd w X' d v := by
            intro j d hj
            have hja : j < as.length := by rw [← h2]; exact (Nc.1 hj).1
            obtain ⟨y, hy, hye⟩ := hev.get j as[j] (by simp [hja])
            obtain ⟨ws, h5, h6⟩ := h4 j as[j] d (by simp [hja]) hj
            have hrd := (hye.to (hmem y (Ni hy)) he).read hs
            have hall : ∀ X', (∀ b, X' b → XX α S.own X0 b) → (∀ k, k ∈ us → (α k).nil = false → ¬ X' (α k).blk) → Rd w X' d (a.eval y) := fun X' hX hk =>
              h5.rd w α _ X' _ hrd (fun k hk e hke => hs.own k e (ho' k (h6 k hk) e hke)) hX fun k hkk hnil => hk k (h6 k hkk) hnil
            refine ⟨a.eval y, by simp [vs, hy], ?_, hall⟩
            have := hall (fun _ => False) (fun _ hb => hb.elim) (fun _ _ _ hb => hb)
            exact this.one (hone d (Ni hj))
          have hvl : vs.length = len := by simp only [vs, lh, Nl]; omega
          have hpsl : ps.toList.length = len := by simp only [Array.length_toList] at hevl ⊢; omega
          have hpss : ps.size = len := by simpa using hpsl
          have hvone : ∀ v, v ∈ vs → v.oneCell' = true := by
            intro v hv
            obtain ⟨j, hj⟩ := List.mem_iff_getElem?.1 hv
            have hjl : j < ds.length := by have := (Nc.1 hj).1; omega
            obtain ⟨u, h5, h6, _⟩ := hval j ds[j] (by simp [hjl])
            rw [hj] at h5; cases h5; exact h6
          have hfill : Instr.fill (fun i => some (i * ie.size, ie.size)) ((Array.range (len * ie.size)).map (z.cells[· % z.cells.size]!)) (ps.toList.map fun (i, x) => (i, a.eval x)) = some vs.toArray := by
            have := x8 (ps.toList.map fun (i, x) => (i, a.eval x)) 0 ((Array.range (len * ie.size)).map (z.cells[· % z.cells.size]!)) (fun j x hx => by
              simp only [List.getElem?_map, Nk] at hx
              obtain ⟨⟨i, y⟩, hy, rfl⟩ := hx
              refine ⟨by have := hix j _ hy; simpa using this, hvone _ ?_⟩
              simp only [vs, lh, List.map_map]
              exact List.mem_map.2 ⟨(i, y), Ni hy, rfl⟩) (by simp [hies, hsz]; omega)
            rw [hies, hsz] at this ⊢
            rw [this]
            simp [vs, lh, Function.comp_def]
          have hrun : (execOp a.eval o).run C.P w = .ok (.value hv) (w.alloc (.cells vs.toArray e)) := by
            have := run_buildSlice (P := C.P) w T e len (ps.map fun (i, x) => (i, a.eval x)) vs.toArray ie z hu hie hz (by rw [hies, hsz]; omega) (by rw [hies, hsz]; omega) (by rw [Array.toList_map]; exact hfill)
            simp only [execOp, ho, Sem.run_bind, this, Result.andThen_ok]; rfl
          refine em hrun (hn (bK α (16 * nm) L) _ _ ?_)
          have hheap : (w.alloc (.cells vs.toArray e)).heap = w.heap.push (.cells vs.toArray e) := rfl
          refine hs.upd _ (fun k hk => .inl hk) _ _ o.dst hd (.os (16 * nm)) _ _ hα (by rw [hheap]; simp) rfl rfl rfl ?_ ?_ ?_ ?_ ?_ ?_ (.os _ (.inr (cI nm 0 (by omega))))
          · intro b hb _
            rw [hheap, Array.getElem?_push_lt hb]; simp [hb]
          · intro k e' hl
            rcases hlk k _ hl with ⟨rfl, _⟩ | ⟨_, h⟩
            · exact .inr (cI nm 0 (by omega))
            · cases h
          · intro k e' hl hnil
            rcases hlk k _ hl with ⟨rfl, h⟩ | ⟨_, h⟩
            · rw [hLk]; exact .inl (Nat.le_refl _)
            · cases h
          · intro k e1 k' e2 hl hl' _ _ _
            rcases hlk k _ hl with ⟨rfl, _⟩ | ⟨_, h⟩ <;> rcases hlk k' _ hl' with ⟨rfl, _⟩ | ⟨_, h'⟩
            · rfl
            · cases h'
            · cases h
            · cases h
          · intro hw k e' hl
            rcases hlk k _ hl with ⟨rfl, h⟩ | ⟨_, h⟩
            · cases h
              refine ⟨lj.ofC (.inr ⟨by rw [hLk], vs.toArray, e, (0, 0), len, ?_⟩), fun x hx => by cases hx⟩
              rw [hLk]
              refine ⟨by rw [hheap]; simp [L], rfl, by simp [aS.len]; omega, by simp [aS.sz, L]; omega, ⟨Nat.le_refl _, fun o _ _ => by simp⟩, ?_, fun j m c hc => ?_, (fun sz xs T h => by cases h; simp [L, hv]; omega), rfl, fun U h => by cases h⟩
              · intro j x hx
                have := hone x (Ni hx)
                have h1 := fR this
                exact ⟨by rw [h1]; rfl, fun c hc => by rw [h1] at hc; simp at hc; subst hc; exact this⟩
              · simp only [aS.cell, Nu, Nk] at hc
                obtain ⟨d, hj, y, hy, rfl⟩ := hc
                have h1 := fR (hone d (Ni hj))
                rw [h1] at hy
                cases m with
                | succ m => simp at hy
                | zero =>
                  simp at hy; subst hy
                  obtain ⟨v, h5, h6, h7⟩ := hval j d hj
                  refine ⟨v, by simpa [L, aS.sz] using h5, .d _ _ ?_⟩
                  have := h7 (fun b => XX (bK α (16 * nm) L) (S.upd o.dst (.os (16 * nm)) ((16 * nm, some (aS.buf 1 ds)) :: us.map fun k => (k, none))).own X0 b ∧ b < w.heap.size) ?_ ?_
                  · refine this.mono fun b ob hb hnx => ?_
                    have hlt : b < w.heap.size := (Array.getElem?_eq_some_iff.1 hb).1
                    refine ⟨?_, fun hX => hnx ⟨hX, hlt⟩⟩
                    rw [hheap, Array.getElem?_push_lt hlt]; simpa [hlt] using hb
                  · rintro b ⟨⟨k, e', hk, hnil, rfl⟩ | hx, hlt⟩
                    · simp only [SS.upd] at hk
                      cases hl2 : look ((16 * nm, some (aS.buf 1 ds)) :: us.map fun k => (k, none)) k with
                      | some oe =>
                        rcases hlk k oe hl2 with ⟨rfl, _⟩ | ⟨_, rfl⟩
                        · rw [hLk] at hlt; simp [L] at hlt
                        · rw [hl2] at hk; cases hk
                      | none =>
                        rw [hl2] at hk
                        have hpk := (hs.oko k e' hk).1
                        rw [hα k hpk] at hnil ⊢
                        exact .inl ⟨k, e', hk, hnil, rfl⟩
                    · exact .inr hx
                  · rintro k hk hnil ⟨⟨k', e', hk', hnil', hb⟩ | hx, _⟩
                    · obtain ⟨e0, he0⟩ := h3 k hk
                      have hSk := ho' k hk e0 he0
                      simp only [SS.upd] at hk'
                      cases hl2 : look ((16 * nm, some (aS.buf 1 ds)) :: us.map fun k => (k, none)) k' with
                      | some oe =>
                        rcases hlk k' oe hl2 with ⟨rfl, _⟩ | ⟨_, rfl⟩
                        · rw [hLk] at hb
                          have := (hs.own k e0 hSk).lt hnil
                          simp [L] at hb; omega
                        · rw [hl2] at hk'; cases hk'
                      | none =>
                        rw [hl2] at hk'
                        have hpk := (hs.oko k' e' hk').1
                        rw [hα k' hpk] at hnil' hb
                        have := hs.inj k' e' k e0 hk' hSk hnil' hnil hb
                        subst this
                        have := hin k' hk
                        rw [hl2] at this; cases this
                    · obtain ⟨e0, he0⟩ := h3 k hk
                      exact (hs.mine k e0 (ho' k hk e0 he0) hnil).2 hx
            · cases h
          · intro hw
            have := co.os (w := w.alloc (.cells vs.toArray e)) (α := bK α (16 * nm) L) (X := XX (bK α (16 * nm) L) (S.upd o.dst (.os (16 * nm)) ((16 * nm, some (aS.buf 1 ds)) :: us.map fun k => (k, none))).own X0) (16 * nm) (by rw [hLk]; rfl)
            rw [hLk] at this
            exact this
        · cases h
      · cases h
    · cases h
  · cases h
end
end Go.Eng
namespace Go.Eng
structure ZrK (i:Int)(K:Nat→Prop):Prop where out:∃m:Nat,i=(m:Int)∧0<m∧m≤68719476736∧K m
structure KJ (A B:Prop):Prop where out:A∨B
theorem Dl {A B:Prop}(h:A):KJ A B:=⟨.inl h⟩
section
variable {C:cq}{n:Nat}{o:Oper}{nm:Nat}{st:AS}{K:KO}
def KA (C:cq)(nm:Nat)(T:TypeId)(s x:AV)(K:KO):Prop:=aW C.tab T fun ti=>match ti.kd with
 |.slice e=>aW C.tab e fun te=>match s with
  |.nl _=>nC x fun _ i=>If te.zero fun z=>match Nat.ble te.bytes 2048,te.agg,z with
   |true,true,z=>(match Nat.beq z.length te.size,Nat.ble 1 te.size with|true,true=>ZrK i fun m=>K (.os (16*nm)) [(16*nm,some (.buf te.size (List.replicate m (.agg z)) (some e)))] []|_,_=>False)|true,false,[d]=>(match Nat.beq te.size 1 with|true=>ZrK i fun m=>K (.os (16*nm)) [(16*nm,some (.buf 1 (List.replicate m d) (some e)))] []|false=>False)|_,_,_=>False
  |_=>False
 |_=>False
theorem MG {z:Array Value}{m c q r sz:Nat}(hz:z.size=sz)(hq:q<m)(hr:r<sz):(#[]++Builtin.zeroCells z m++Builtin.zeroCells z c)[q*sz+r]?=z[r]?:=by
 have hlt:q*sz+r<m*sz:=by have:(q+1)*sz≤m*sz:=Nat.mul_le_mul_right _ hq;rw[Nat.add_mul] at this;omega
 rw[Array.getElem?_append_left (by simp[gW,hz];exact hlt)];simp[Builtin.zeroCells,hz,hlt];rw[Nat.mod_eq_of_lt hr];simp[show r<z.size by omega]
theorem appZ_out {c:Call}{s x:Operand}{T Tx:TypeId}{k0:IntKind}(ho:o.op=.call c)(hc:c.callee=.builtin .append)(ha:c.args=#[s,x])(hT:c.argTypes=#[T,Tx])(hux:C.P.underlying Tx=some (.int k0))(h:lA C st T s fun a=>fF st x fun b=>KA C nm T a b K):∃out upd rd,K out upd rd∧cr C n o nm st rd out upd:=by
 replace h:=gf h;obtain⟨va,h1,h⟩:=h;replace h:=bx h;obtain⟨vb,h2,h⟩:=h;have hm1:s∈o.op.operands:=by rw[ho];simp[Op.operands,Call.operands,hc,ha]
 have hm2:x∈o.op.operands:=by rw[ho];simp[Op.operands,Call.operands,hc,ha]
 unfold KA at h;replace h:=aJ h;obtain⟨ti,hti,h⟩:=h;split at h
 ·rename_i e hk;replace h:=aJ h;obtain⟨te,hte,h⟩:=h;split at h
  ·rename_i sz0;unfold nC at h;split at h
   ·rename_i k1 i;replace h:=vB h;obtain⟨z,h,hzl,hzo,hzr⟩:=h;have hu:=cM (C.ty hti) hk;obtain⟨⟨ie,hie,hies,hieb,zv,hz,hzz⟩,_⟩:=C.ty hte;have fin:te.bytes≤2048→∀(x':D),x'.cells=z→z.length=te.size→1≤te.size→ZrK i (fun m=>K (.os (16*nm)) [(16*nm,some (.buf te.size (List.replicate m x') (some e)))] [])→∃out upd rd,K out upd rd∧cr C n o nm st rd out upd:=by
     rintro hby x' hx hzn hpos ⟨m,rfl,h0,hle,hK⟩;have hzsz:zv.cells.size=te.size:=by have:=(kR hzz).1;simp at this;omega
     refine⟨_,_,_,hK,cr.make (e:=.buf te.size (List.replicate m x') (some e)) (kills:=[]) (fun _ hk=>by cases hk) (.inl rfl) fun X0 F w0 p α S a w hs he _=>?_⟩;have hr:=(h1.to hm1 he).read hs;generalize hv:a.eval s=sv at hr;cases hr;have hl':=((h2.to hm2 he).read hs).dinv.iinv;have hwx:x'.wd te.size:=⟨by rw[hx];exact hzn,by rw[hx];exact hzo⟩;have hfit:Builtin.nextslicecap (0+m) 0*ie.bytes≤281474976710656:=by have h3:=Room.nextslicecap_le' (need:=0+m) (old:=0) (by omega);rw[hieb];calc _≤(2*68719476736)*2048:=Nat.mul_le_mul (by omega) hby
       _=281474976710656:=by decide
     have h48:m*ie.bytes≤281474976710656:=by rw[hieb];calc _≤(2*68719476736)*2048:=Nat.mul_le_mul (by omega) hby
       _=281474976710656:=by decide
     have hrun:=Lib.run_append_grow_zeros (P:=C.P) w T Tx o.type e ie zv k1 k0 hu hux hie hz none 0 0 [] (run_firstCells_none _ _ _ _ _) m h0 (by omega) (by omega) (by omega) h48 hfit;have hcap:m≤grownCap w (0+m) 0 e:=by simp[grownCap,Question.cut]
     generalize hcc:grownCap w (0+m) 0 e=cc at hrun hcap;simp only[Nat.zero_add] at hrun;refine⟨w.drew.alloc (.cells (#[]++Builtin.zeroCells zv.cells m++Builtin.zeroCells zv.cells (cc-m)) e),.slice (some ⟨w.heap.size,0,none⟩) m cc,#[]++Builtin.zeroCells zv.cells m++Builtin.zeroCells zv.cells (cc-m),e,(0,0),cc,⟨rfl,rfl,rfl,rfl,by simp[aS.len,hcap],?_,⟨Nat.le_refl _,fun o _=>by simp⟩,?_,fun q r c hc=>?_,(fun x hx=>by cases hx),?_,rfl,fun V hV=>?_⟩,jA ho hc ha hT (by rw[hv,hl'];simpa using hrun)⟩;·simp only[aS.sz,Array.size_append,gW,hzsz];simp only[List.size_toArray,Nf,Nat.zero_add];rw[←Nat.add_mul];exact Nat.mul_le_mul_right _ (by omega)
     ·intro q y hy;rw[List.getElem?_replicate] at hy;split at hy;·cases hy;exact hwx
      ·cases hy
     ·simp only[aS.cell,Nu,Nk] at hc;obtain⟨y,hy,d,hd,rfl⟩:=hc;rw[List.getElem?_replicate] at hy;split at hy
      ·cases hy;rename_i hq;rw[hx] at hd;have hr:r<te.size:=by rw[←hzn];exact(Nc.1 hd).1
       refine⟨zv.cells[r]'(by omega),?_,.d _ _ ?_⟩;·simp only[aS.sz];rw[MG hzsz hq hr];simp[show r<zv.cells.size by omega]
       ·refine hzr w α _ r d ((te.zero)[r]'(by rw[←hzl];omega)) _ hd (by simp) ?_;have:=(kL (w:=w) (α:=α) (X:=XX α S.own X0) hzz).2 r ((te.zero)[r]'(by rw[←hzl];omega)) (zv.cells[r]'(by omega)) (by simp) (by simp);exact this
      ·cases hy
     ·intro sz xs V hV;cases hV;simp
     ·cases hV;exact⟨rfl,fun cs V h=>by cases h⟩
    split at h
    ·rename_i hby hagg;split at h;·rename_i hb1 hb2;exact fin (Nat.le_of_ble_eq_true hby) (.agg _) rfl (Nd hb1) (Nat.le_of_ble_eq_true hb2) h
     ·cases h
    ·rename_i zl' d hby hagg;split at h;·rename_i hb;have hb:=Nd hb;rw[←hb] at h;refine fin (Nat.le_of_ble_eq_true hby) d (fR (hzo d (by simp))) (by simp[hb]) (by omega) ?_;simpa[hb] using h
     ·cases h
    ·cases h
   ·cases h
  ·cases h
 ·cases h
def pi (C:cq)(nm:Nat)(st:AS)(T:TypeId)(a:AV)(lo hi:Option Int)(K:KO):Prop:=match a with
 |.nl sz=>aW C.tab T fun ti=>match ti.kd,lo,hi with
  |.slice e,none,some i=>aW C.tab e fun _=>Ab i 0 fun _=>K (.nl sz) [] []|_,_,_=>False
 |.os k=>aW C.tab T fun ti=>match ti.kd,lo,hi with
  |.slice e,none,some i=>iH st k fun en=>aW C.tab e fun te=>(match en with
   |.buf sz xs T0=>(match Nat.beq te.size sz with|true=>Ab i xs.length fun j=>KJ (K (.d (.sl sz (xs.take j))) [(k,none)] [k]) (K (.os (16*nm)) [(16*nm,some (.buf sz (xs.take j) T0)),(k,none)] [k])|false=>False)|_=>False)|_,_,_=>nB C st T a lo hi K
 |_=>nB C st T a lo hi K
theorem xr {st:AS}{x:Option Operand}{K:Option Int→Prop}(h:D2 st x K):∃i,(∀K':Option Int→Prop,K' i→D2 st x K')∧K i:=by cases x with|none=>exact⟨none,fun _ h=>h,h⟩;|some x=>
 obtain⟨a,hb,h⟩:=kP h;unfold nC at h;split at h;·rename_i k i;exact⟨some i,fun K' h=>hb (fun a=>nC a fun _ i=>K' (some i)) h,h⟩
 ·cases h
theorem rC {β:Type}{l:List (Nat×β)}{x:Nat}{v:β}{K:β→Prop}(h:look l x=some v)(hK:K v):aW l x K:=by induction l with|nil=>simp[look] at h;|cons y r ih=>obtain⟨y,u⟩:=y;simp only[look] at h;simp only[aW];cases hb:Nat.beq x y with|true=>simp only[hb] at h⊢;cases h;exact hK;|false=>simp only[hb] at h⊢;exact ih h
theorem I6 {st:AS}{k:Nat}{e:aS}{K:aS→Prop}(h:st.ss.own k=some e)(hK:K e):iH st k K:=by
 simp only[AS.ss] at h;split at h;·rename_i oe ho;subst h;exact rC ho hK
 ·cases h
theorem Ak {T:TypeId}{x:Operand}{lo hi:Option Operand}(ho:o.op=.slice T x lo hi none)(h:fF st x fun a=>D2 st lo fun l=>D2 st hi fun r=>pi C nm st T a l r K):∃out upd rd,K out upd rd∧cr C n o nm st rd out upd:=by
 replace h:=kP h;obtain⟨va,hb,h⟩:=h;have aI:(D2 st lo fun l=>D2 st hi fun r=>nB C st T va l r K)→∃out upd rd,K out upd rd∧cr C n o nm st rd out upd:=fun h=>Dv ho (hb _ h);have hh:=bx (hb (fun a=>a=va∧D2 st lo fun l=>D2 st hi fun r=>pi C nm st T a l r K) ⟨rfl,h⟩);clear h;obtain⟨va',h1,rfl,h⟩:=hh;have hm1:x∈o.op.operands:=by rw[ho];simp[Op.operands]
 have hm2:∀y,lo=some y→y∈o.op.operands:=by intro y hy;rw[ho,hy];simp[Op.operands]
 have hm3:∀y,hi=some y→y∈o.op.operands:=by intro y hy;rw[ho,hy];simp[Op.operands]
 have run:∀(a:Act)(w:World)(v:Value),(Instr.sliceAt T (a.eval x) (lo.map a.eval) (hi.map a.eval) none).run C.P w=.ok v w→(execOp a.eval o).run C.P w=.ok (.value v) w:=by intro a w v hv;simp[execOp,ho,hv]
 unfold pi at h;split at h
 ·rename_i sz;replace h:=kZ h;obtain⟨vl,h2,h⟩:=h;replace h:=kZ h;obtain⟨vh,h3,h⟩:=h;replace h:=aJ h;obtain⟨ti,hti,h⟩:=h;split at h
  ·rename_i e i hk;replace h:=aJ h;obtain⟨te,hte,h⟩:=h;obtain⟨j,rfl,hj,h⟩:=h;obtain rfl:j=0:=by omega
   refine⟨_,_,_,h,cr.pure fun X0 F w0 p α S a w hs he _=>?_⟩;have hr:=(h1.to hm1 he).read hs;generalize hv:a.eval x=v at hr;cases hr;have hl:=jE hs h2 (fun t e=>he t (hm2 _ e)) (d:=0) (.inl ⟨rfl,rfl⟩);have hh:=jE hs h3 (fun t e=>he t (hm3 _ e)) (d:=0) (.inr rfl);refine⟨_,run a w (.slice none 0 0) ?_,.nl _,.nl _⟩;rw[hv];have:=dP (w:=w) (C.ty hti) hk (C.ty hte) none hl hh (Nat.le_refl _) (Nat.le_refl 0);simpa using this
  ·cases h
 ·rename_i k;replace h:=xr h;obtain⟨vl,hbl,h⟩:=h;replace h:=xr h;obtain⟨vh,hbh,h⟩:=h;obtain⟨l',h2,rfl⟩:=kZ (hbl (fun l=>l=vl) rfl);obtain⟨r',h3,rfl⟩:=kZ (hbh (fun l=>l=vh) rfl);replace h:=aJ h;obtain⟨ti,hti,h⟩:=h;split at h
  ·rename_i e i hk;replace h:=cQ h;obtain⟨en,hen,h⟩:=h;replace h:=aJ h;obtain⟨te,hte,h⟩:=h;split at h
   ·rename_i sz xs T0;split at h
    ·rename_i hsz;have hsz:=Nd hsz;obtain⟨j,rfl,hj,h⟩:=h;rcases h with⟨h|h⟩;·refine aI (hbl _ (hbh _ ?_));unfold nB;refine rC hti ?_;simp only[hk];refine I6 hen (rC hte ?_);simp only[hsz,Nat.beq_refl];exact⟨j,rfl,hj,h⟩
     ·refine⟨_,_,_,h,fun q oe hl=>?_,fun X0 F w0 p α S a w Q next hs he ho' hp hd hn=>?_⟩
      ·simp only[look] at hl;split at hl;·rename_i hb;rw[Nd hb];exact .inr (cI nm 0 (by omega))
       ·split at hl;·rename_i hb;rw[Nd hb];exact .inl List.mem_cons_self
        ·cases hl
      have hSk:=ho' k (by simp) _ hen;have hr:=(h1.to hm1 he).read hs;generalize hx:a.eval x=v at hr;cases hr;have hl:=jE hs h2 (fun t e=>he t (hm2 _ e)) (d:=0) (.inl ⟨rfl,rfl⟩);have hh:=jE hs h3 (fun t e=>he t (hm3 _ e)) (d:=xs.length) (j:=j) (.inr rfl);rcases hs.own k _ hSk with⟨hnil,⟨sz',_,hen'⟩,hv⟩|⟨hnil,arr,U,fz,cap,hB⟩
      ·cases hen';obtain rfl:j=0:=by simpa using hj
       obtain⟨α',h⟩:=hs.nilrow hp sz T0 [k] o.dst hd;rw[hv] at hx;refine em (run a w (.slice none 0 0) ?_) (hn α' _ w (by simpa[gF] using h));rw[hx];have:=dP (w:=w) (C.ty hti) hk (C.ty hte) none hl hh (Nat.le_refl _) (Nat.le_refl 0);simpa using this
      ·have hhv:=hB.hv sz xs _ rfl;rw[hhv] at hx;have hcl:=hB.len;simp only[aS.len] at hcl;have hW:qc w w α (XX α S.own X0) p (α k) (.buf sz (xs.take j) T0) (.slice (some ⟨(α k).blk,(α k).off,none⟩) j cap) arr U fz cap:=by
        refine⟨hB.heap,fun _ _=>rfl,rfl,rfl,rfl,rfl,hB.hsz,?_,hB.bnd,hB.nf,?_,?_,(fun x hx=>by cases hx),?_,rfl,fun V h=>⟨(hB.ty V h).1,(hB.ty V h).2.1,fun cs V h=>by cases h⟩⟩;·simp only[aS.len,Nj];omega
        ·intro q x hq;rw[List.getElem?_take] at hq;split at hq;·exact hB.wid q x hq
         ·cases hq
        ·intro q m c hc;simp only[aS.cell,Nu,Nk] at hc;obtain⟨x,hq,y,hy,rfl⟩:=hc;rw[List.getElem?_take] at hq;split at hq;·exact hB.rd q m _ (kM (e:=.buf sz xs T0) rfl hq hy)
         ·cases hq
        ·intro sz' xs' _ h;cases h;rw[Nj,Nat.min_eq_left hj]
       obtain⟨α',h⟩:=hs.write hp false hSk hnil hW (fun h=>by cases h) o.dst hd (.os (16*nm)) (.slice (some ⟨(α k).blk,(α k).off,none⟩) j cap) (.inr ⟨rfl,rfl⟩) (.inr rfl);refine em (run a w (.slice (some ⟨(α k).blk,(α k).off,none⟩) j cap) ?_) (hn α' _ w h);rw[hx];have:=dP (w:=w) (C.ty hti) hk (C.ty hte) (some ⟨(α k).blk,(α k).off,none⟩) (cap:=cap) hl hh (Nat.zero_le j) (by omega);have h0:(⟨(α k).blk,(α k).off,none⟩:Addr).add (0*te.size)=⟨(α k).blk,(α k).off,none⟩:=by simp[Addr.add]
       simp only[Option.map_some,h0,Nat.sub_zero,ite_self] at this;exact this
    ·cases h
   ·cases h
  ·exact aI (hbl _ (hbh _ h))
 ·exact aI h
def BT (C:cq)(nm:Nat)(st:AS)(S T:TypeId)(a:AV)(K:KO):Prop:=aW C.tab T fun ti=>match ti.kd with
 |.slice e=>aW C.tab e fun te=>match Nat.beq S T,te.kd,a with
  |true,.int .u8,.os k=>iH st k fun en=>(match en with|.buf sz (x::xs) (some U)=>K (.os (16*nm)) [(16*nm,some (.buf sz (x::xs) (some U))),(k,none)] [k]|_=>False)|_,_,_=>False
 |_=>False
theorem uJ {w:World}{b:Nat}{arr:Array Value}{U:TypeId}{fz:Nat×Nat}(h:w.heap[b]?=some (.cells arr U fz))(j:Nat):(w.freeze ⟨b,j,none⟩ 1).heap[b]?=some (.cells arr U (if fz.1==fz.2 then(j,j+1) else(min fz.1 j,max fz.2 (j+1)))):=by obtain⟨lo,hi⟩:=fz;unfold World.freeze;rw[if_neg (by decide)];simp only[Array.getElem?_modify,h];simp
theorem Ey {S T:TypeId}{x:Operand}(ho:o.op=.convert S T x)(h:fF st x fun a=>BT C nm st S T a K):∃out upd rd,K out upd rd∧cr C n o nm st rd out upd:=by
 replace h:=bx h;obtain⟨va,h1,h⟩:=h;have hm:x∈o.op.operands:=by rw[ho];simp[Op.operands]
 unfold BT at h;replace h:=aJ h;obtain⟨ti,hti,h⟩:=h;split at h
 ·rename_i e hk;replace h:=aJ h;obtain⟨te,hte,h⟩:=h;split at h
  ·rename_i k hST hk8;obtain rfl:=Nd hST;have hu:=cM (C.ty hti) hk;have hue:=vS (C.ty hte) hk8;replace h:=cQ h;obtain⟨en,hen,h⟩:=h;split at h
   ·rename_i sz y xs U;refine⟨_,_,_,h,fun q oe hl=>?_,fun X0 F w0 p α S a w Q next hs he ho' hp hd hn=>?_⟩
    ·simp only[look] at hl;split at hl;·rename_i hb;rw[Nd hb];exact .inr (cI nm 0 (by omega))
     ·split at hl;·rename_i hb;rw[Nd hb];exact .inl List.mem_cons_self
      ·cases hl
    have hSk:=ho' k (by simp) _ hen;have hr:=(h1.to hm he).read hs;generalize hx:a.eval x=v at hr;cases hr;rcases hs.own k _ hSk with⟨hnil,⟨sz',_,hen'⟩,hv⟩|⟨hnil,arr,U',fz,cap,hB⟩;·cases hen'
    ·have hhv:=hB.hv sz (y::xs) _ rfl;obtain⟨rfl,hoff,_⟩:=hB.ty U rfl;have hbd:=hB.bnd;simp only[aS.sz,hoff] at hbd;obtain⟨f1,f2,f3,f4,f5⟩:=v8 w ⟨(α k).blk,arr.size,none⟩ 1;have hfz:=uJ hB.heap arr.size;have hW:qc w (w.freeze ⟨(α k).blk,arr.size,none⟩ 1) α (XX α S.own X0) p (α k) (.buf sz (y::xs) (some U')) (α k).hv arr U' (if fz.1==fz.2 then(arr.size,arr.size+1) else(min fz.1 arr.size,max fz.2 (arr.size+1))) cap:=by
      obtain⟨hle,hnf⟩:=hB.nf;refine⟨hfz,f5,f4,f1,f2,f3,hB.hsz,hB.len,hB.bnd,?_,hB.wid,hB.rd,(fun x hx=>by cases hx),hB.hv,hB.hone,fun V h=>hB.ty V h⟩;rw[hoff] at hnf⊢;simp only[aS.sz] at hnf⊢;by_cases hlo:fz.1=fz.2;·rw[if_pos (by simpa using hlo)];exact⟨Nat.le_succ _,fun o _ h2=>by simp only;omega⟩
      ·rw[if_neg (by simpa using hlo)];have:0+cap*sz≤fz.1:=by
        rcases Nat.lt_or_ge fz.1 (0+cap*sz) with h|h;·exact absurd ⟨Nat.le_refl _,by omega⟩ (hnf fz.1 (Nat.zero_le _) h)
        ·exact h
       exact⟨by simp only;omega,fun o _ h2=>by simp only;omega⟩
     obtain⟨α',h⟩:=hs.write hp false hSk hnil hW (fun h=>by cases h) o.dst hd (.os (16*nm)) (α k).hv (.inr ⟨rfl,rfl⟩) (.inr rfl);refine em ?_ (hn α' _ _ h);rw[hhv];have hsh:w.shape? (α k).blk=some (U',arr.size):=by simp[World.shape?,hB.heap]
     simp[execOp,ho,hx,hhv,convert,underlying,hu,hue,markStringish,hsh]
   ·cases h
  ·cases h
 ·cases h
end
end Go.Eng
