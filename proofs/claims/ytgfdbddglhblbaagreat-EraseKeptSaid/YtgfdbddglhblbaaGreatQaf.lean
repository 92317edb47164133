/- A part of the proof of what is stated of the erasing of a mirror. -/
import Derived.Test.YtgfdbddglhblbaaGreatQae
set_option maxHeartbeats 64000000
namespace Go.Eng
open Go.RowKit (Below)
section
variable {C:cq}{n:Nat}{o:Oper}{nm:Nat}{st:AS}{K:KO}
def HC (T0:Option TypeId)(e:TypeId):Option TypeId:=match T0 with|some t=>(match Nat.beq t e with|true=>some e|false=>none)|none=>none
theorem GC (T0:Option TypeId)(e:TypeId):∀U,HC T0 e=some U→U=e∧T0=some U:=by
 intro U h;unfold HC at h;split at h
 ·split at h;·rename_i hb;cases h;exact⟨rfl,by rw[Nd hb]⟩
  ·cases h
 ·cases h
def uH (C:cq)(st:AS)(nm:Nat)(T Tx:TypeId)(s x:AV)(K:KO):Prop:=aW C.tab T fun ti=>match ti.kd with
 |.slice e=>aW C.tab e fun te=>match Nat.ble te.bytes 2048,Nat.beq te.zero.length te.size with
  |true,true=>LW C st te.size Tx x fun ys us=>match s with
   |.nl _=>Ik te.bytes ys.length (K (.os (16*nm)) [(16*nm,some (.buf te.size ys (some e)))] us)|.os k=>iH st k fun en=>match en with
    |.buf sz xs T0=>match Nat.beq sz te.size with
     |true=>Ik te.bytes (xs.length+ys.length) (K (.os (16*nm)) [(16*nm,some (.buf te.size (xs++ys) (HC T0 e))),(k,none)] (k::us))|false=>False
    |_=>False
   |_=>False
  |_,_=>False
 |_=>False
theorem jA {c:Call}{s x:Operand}{T Tx:TypeId}(ho:o.op=.call c)(hc:c.callee=.builtin .append)(ha:c.args=#[s,x])(hT:c.argTypes=#[T,Tx]){P:Program}{a:Act}{w w':World}{v:Value}(h:(Builtin.append_ #[T,Tx] o.type #[a.eval s,a.eval x]).run P w=.ok v w'):(execOp a.eval o).run P w=.ok (.value v) w':=by simp[execOp,ho,resolve,hc,ha,hT,invoke,builtin,h]
theorem zM {c:Call}{s x:Operand}{T Tx:TypeId}(ho:o.op=.call c)(hc:c.callee=.builtin .append)(ha:c.args=#[s,x])(hT:c.argTypes=#[T,Tx])(h:lA C st T s fun a=>lA C st Tx x fun b=>uH C st nm T Tx a b K):∃out upd rd,K out upd rd∧cr C n o nm st rd out upd:=by
 replace h:=gf h;obtain⟨sa,h1,h⟩:=h;replace h:=gf h;obtain⟨xa,h2,h⟩:=h;have hm1:s∈o.op.operands:=by rw[ho];simp[Op.operands,Call.operands,hc,ha]
 have hm2:x∈o.op.operands:=by rw[ho];simp[Op.operands,Call.operands,hc,ha]
 unfold uH at h;replace h:=aJ h;obtain⟨ti,hti,h⟩:=h;split at h
 ·rename_i e hk;have hu:=cM (C.ty hti) hk;replace h:=aJ h;obtain⟨te,hte,h⟩:=h;split at h
  ·rename_i hby hz;have hby:=Nat.le_of_ble_eq_true hby;have hz:=Nd hz;replace h:=Fg h;obtain⟨ys,us,h,hsrc⟩:=h;split at h
   ·rename_i sz0;obtain⟨hle,h⟩:=h;replace hle:=wE hby hle;refine⟨_,_,_,h,fun k oe hl=>?_,fun X0 F w0 p α S a w Q next hs he ho' hp hd hn=>?_⟩
    ·simp only[look] at hl;split at hl;·rename_i hb;rw[Nd hb];exact .inr (cI nm 0 (by omega))
     ·cases hl
    have hr:=(h1.to hm1 he).read hs;generalize hv:a.eval s=sv at hr;cases hr;obtain⟨nw,hso⟩:=hsrc hs ho' _ ((h2.to hm2 he).read hs);by_cases hy:ys.length=0
    ·have hys:ys=[]:=List.eq_nil_of_length_eq_zero hy;subst hys;have hn0:nw=[]:=List.eq_nil_of_length_eq_zero (by have:=hso.src.newsLen;simpa using this);subst hn0;obtain⟨⟨i,hi,his,_⟩,_⟩:=C.ty hte;have hrun:(Builtin.append_ #[T,Tx] o.type #[.slice none 0 0,a.eval x]).run C.P w=.ok (.slice none 0 0) w:=by have hcc:=hso.src.cells;rcases hso.src.kind with⟨e',hk⟩|hk<;>simp[Builtin.append_,run_underlying hu,run_underlying hk,sizeOf,typeInfo,hi,his,hso.src.len];all_goals (first|simpa using hcc|(simp at hcc;simp[hcc]))
     obtain⟨α',hS⟩:=hs.nilrow hp te.size (some e) [] o.dst hd;exact em (jA ho hc ha hT (by rw[hv];exact hrun)) (hn α' _ w hS)
    ·obtain⟨w',hv',arr,cap,hM,hrun⟩:=ry (α:=α) (p:=p) (T1:=some e) (ty:=o.type) (xs:=[]) (base:=none) (sCap:=0) (ol:=[]) hu (C.ty hte) hz hby hso (run_firstCells_none _ _ _ _ _) (by simp) (fun j x hx=>by simp at hx) (fun j m x c hx=>by simp at hx)
      (fun U h=>(Option.some.inj h).symm) (by simp;omega) (by simpa using hle);obtain⟨α',hS⟩:=hs.make hp hM [] o.dst hd (.os (16*nm)) (.inl rfl);exact em (jA ho hc ha hT (by rw[hv];exact hrun)) (hn α' _ w' hS)
   ·rename_i k;replace h:=cQ h;obtain⟨en,hen,h⟩:=h;split at h
    ·rename_i sz xs T0;split at h
     ·rename_i hsz;obtain rfl:=Nd hsz;obtain⟨hle,h⟩:=h;replace hle:=wE hby hle;refine⟨_,_,_,h,fun j oe hl=>?_,fun X0 F w0 p α S a w Q next hs he ho' hp hd hn=>?_⟩
      ·simp only[look] at hl;split at hl;·rename_i hb;rw[Nd hb];exact .inr (cI nm 0 (by omega))
       ·split at hl;·rename_i hb;rw[Nd hb];exact .inl List.mem_cons_self
        ·cases hl
      have hr:=(h1.to hm1 he).read hs;generalize hv:a.eval s=sv at hr;cases hr;obtain⟨nw,hso⟩:=hsrc hs (fun k hk=>ho' k (Nv _ hk)) _ ((h2.to hm2 he).read hs);obtain⟨α',v',w',hrun,hS⟩:=I7 (ty:=o.type) hs hp hu (C.ty hte) hz hby (GC T0 e) (ho' k List.mem_cons_self _ hen) hso hle o.dst hd;exact em (jA ho hc ha hT (by rw[hv];exact hrun)) (hn α' _ w' hS)
     ·cases h
    ·cases h
   ·cases h
  ·cases h
 ·cases h
def gP (rs:List D):AV:=match rs with|[r]=>.d r|rs=>.tup (rs.map .d)
def ay (C:cq)(f:FuncId)(ds rs:List D):Prop:=(∃fn,C.P.funcs[f]?=some fn∧(fn.name== "runtime.NumGoroutine")=false∧fn.body.isNone=false)∧∀(w:World)(X:Nat→Prop)(vs:Array Value),(∀b,X b→b<w.heap.size)→(∀x,x∈C.G→x.g<w.heap.size∧¬X x.g∧zT w X x)→ds.length=vs.size→(∀(j:Nat)(d:D)(v:Value),ds[j]?=some d→vs[j]?=some v→Rd w X d v)→Calls C.P f vs w fun e w'=>∃v,e=.returned v∧co w' (fun _=>⟨0,0,0,false,.bool false⟩) X (gP rs) v∧Below w.heap.size w w'
def D.flat0:D→Bool|.sl _ _=>false|.agg _=>false|_=>true
def D.flat:D→Bool|.sl _ _=>false|.agg cs=>cs.all D.flat0|_=>true
theorem Rd.flat0 {w w':World}{X X':Nat→Prop}{d:D}{v:Value}(h:Rd w X d v)(hf:d.flat0=true):Rd w' X' d v:=by cases h with|b t=>exact .b t;|i k n=>exact .i k n;|s l=>exact .s l;|x v=>exact .x v;|agg=>simp[D.flat0] at hf;|slnil=>simp[D.flat0] at hf;|sle=>simp[D.flat0] at hf;|sl=>simp[D.flat0] at hf
theorem Rd.flat {w w':World}{X X':Nat→Prop}{d:D}{v:Value}(h:Rd w X d v)(hf:d.flat=true):Rd w' X' d v:=by cases h with|b t=>exact .b t;|i k n=>exact .i k n;|s l=>exact .s l;|x v=>exact .x v;|agg cs vs hl hc=>exact .agg cs vs hl fun j c v h1 h2=>(hc j c v h1 h2).flat0 (List.all_eq_true.1 hf c (Ni h1));|slnil=>simp[D.flat] at hf;|sle=>simp[D.flat] at hf;|sl=>simp[D.flat] at hf
theorem D3 {w:World}{α:Nat→dh}{X:Nat→Prop}{rs:List D}{v:Value}(h:co w α X (gP rs) v){w':World}{α':Nat→dh}{X':Nat→Prop}(ht:∀d u,d∈rs→Rd w X d u→Rd w' X' d u):co w' α' X' (gP rs) v:=by
 unfold gP at*;split at h;·exact .d _ _ (ht _ _ (by simp) h.dinv)
 ·cases h with|tup _ vs hl hc=>refine .tup _ vs hl fun j c u h1 h2=>?_;have h3:=hc j c u h1 h2;simp only[List.getElem?_map,Nk] at h1;obtain⟨d,h4,rfl⟩:=h1;exact .d _ _ (ht _ _ (Ni h4) h3.dinv)
theorem HN {p:Nat→Prop}{rs:List D}:(gP rs).ok p:=by
 unfold gP;split;·exact .d _
 ·refine .tup _ fun c hc=>?_;obtain⟨d,_,rfl⟩:=List.mem_map.1 hc;exact .d d
def p7 (st:AS):List AV→(List D→List Nat→Prop)→Prop|[],K=>K [] []|a::l,K=>nM st a fun d us=>p7 st l fun ds vs=>match us with|[]=>K (d::ds) vs|us=>K (d::ds) (us++vs)
theorem uf {st:AS}{l:List AV}{K:List D→List Nat→Prop}(h:p7 st l K):∃ds us,K ds us∧ds.length=l.length∧(∀k,k∈us→∃e,st.ss.own k=some e)∧∀(j:Nat)(a:AV)(d:D),l[j]?=some a→ds[j]?=some d→∃vs,IF st a d vs∧∀k,k∈vs→k∈us:=by induction l generalizing K with|nil=>exact⟨[],[],h,rfl,(fun k hk=>by cases hk),fun j a d hj=>by simp at hj⟩;|cons a l ih=>
 obtain⟨d,us,h,h1⟩:=iV h;obtain⟨ds,vs,h,h2,h3,h4⟩:=ih h;have fin:∀ws,(∀k,k∈ws↔k∈us∨k∈vs)→K (d::ds) ws→∃ds us,K ds us∧ds.length=(a::l).length∧(∀k,k∈us→∃e,st.ss.own k=some e)∧∀(j:Nat)(b:AV)(d:D),(a::l)[j]?=some b→ds[j]?=some d→∃vs,IF st b d vs∧∀k,k∈vs→k∈us:=by
  intro ws hws hk;refine⟨_,_,hk,by simp[h2],fun k hk=>?_,fun j b d' hj hd=>?_⟩
  ·rcases (hws k).1 hk with h|h;·exact h1.ent k h
   ·exact h3 k h
  ·cases j with|zero=>simp at hj hd;subst hj hd;exact⟨us,h1,fun k hk=>(hws k).2 (.inl hk)⟩;|succ j=>obtain⟨vs',h5,h6⟩:=h4 j b d' (by simpa using hj) (by simpa using hd);exact⟨vs',h5,fun k hk=>(hws k).2 (.inr (h6 k hk))⟩
 split at h;·exact fin vs (fun k=>by simp) h
 ·exact fin _ (fun k=>by simp) h
def Mb (rs:List D)(us:List Nat)(K:KO):Prop:=match us with
 |[]=>match rs with|[r]=>K (.d r) [] []|rs=>K (gP rs) [] []
 |us=>match rs with
 |[r]=>match r.flat with|true=>K (.d r) [] us|false=>K (.d r) (us.map fun k=>(k,none)) us
 |rs=>K (gP rs) (us.map fun k=>(k,none)) us
end
end Go.Eng
namespace Go.Eng
open Go.RowKit (Below)
def yS (l:List Nat)(x:Nat):Bool:=match l with|[]=>false|y::r=>match Nat.beq y x with|true=>true|false=>yS r x
def jN (l m:List Nat):Bool:=match l with|[]=>false|x::r=>match yS m x with|true=>true|false=>jN r m
theorem mW {l:List Nat}{x:Nat}:yS l x=true↔x∈l:=by induction l with|nil=>simp[yS];|cons y r ih=>
 simp only[yS];split;·rename_i hb;simp[Nd hb]
 ·rename_i hb;rw[ih];have:x≠y:=fun h=>by subst h;simp at hb
  simp[this]
theorem sV {l m:List Nat}:jN l m=true↔∃x,x∈l∧x∈m:=by induction l with|nil=>simp[jN];|cons y r ih=>
 simp only[jN];split;·rename_i hb;exact⟨fun _=>⟨y,List.mem_cons_self,mW.1 hb⟩,fun _=>rfl⟩
 ·rename_i hb;rw[ih];constructor;·rintro⟨x,h1,h2⟩;exact⟨x,Nv _ h1,h2⟩
  ·rintro⟨x,h1,h2⟩;rcases List.mem_cons.1 h1 with rfl|h1;·rw[mW.2 h2] at hb;cases hb
   ·exact⟨x,h1,h2⟩
def b9 (st:AS)(k:Nat):Prop:=k/16<st.nx
def dX (l:List (Nat×Nat))(k:Nat):Nat:=match look l k with|some j=>j|none=>k
def aO (p:Prop):Prop:=p
theorem aI {p:Prop}(h:p):aO p:=h
theorem aO.out {p:Prop}(h:aO p):p:=h
theorem gV {m n:Nat}(h:Nat.blt m n=true):m<n:=by simp[Nat.blt] at h;omega
def Gc:List AV→Bool|[]=>true|.fn _ [] []::r=>Gc r|_::_=>false
theorem qr:∀{m:List AV},Gc m=true→∀c,c∈m→∃g,c=.fn g [] []
 |[],_,c,hc=>by cases hc;|x::r,h,c,hc=>by
  unfold Gc at h;split at h;·rename_i h0;cases h0
  ·rename_i g r' h0;cases h0;rcases List.mem_cons.1 hc with rfl|hc;·exact⟨g,rfl⟩
   ·exact qr h c hc
  ·cases h
theorem CF {w:World}{α β:Nat→dh}{X X':Nat→Prop}{p:Nat→Prop}{m:List AV}{v:Value}(h:Gc m=true)(hr:co w α X (.agg m) v):co w β X' (.agg m) v∧(AV.agg m).ok p:=by cases hr with|agg _ vs hl hc=>
 refine⟨.agg _ _ hl fun j c v hj hv=>?_,.agg _ fun c hm=>?_⟩;·obtain⟨g,rfl⟩:=qr h c (Ni hj);have:=hc j _ v hj hv;cases this with|fn _ _ _ va vb h1 h2=>exact .fn g [] [] va vb h1 h2 (fun j c v hj=>by simp at hj) (fun j c v hj=>by simp at hj)
 ·obtain⟨g,rfl⟩:=qr h c hm;exact .fn g [] [] (fun c hc=>by cases hc) (fun c hc=>by cases hc)
def z8 (ρ:List (Nat×Nat))(N:Nat)(a b:AV):Prop:=match b with
 |.any=>True|.d y=>match a with|.d x=>aO (x=y)|_=>False
 |.op k i j=>match a with|.op k' i' j'=>k'=dX ρ k∧i'=i∧j'=j∧Nat.blt (k/16) N=true|_=>False
 |.os k=>match a with|.os k'=>k'=dX ρ k∧Nat.blt (k/16) N=true|_=>False
 |.nl s=>match a with|.nl s'=>s'=s|_=>False
 |.pp y j=>match a with|.pp x i=>aO (x=y)∧i=j|_=>False
 |.gp g=>match a with|.gp g'=>g'=g|_=>False
 |.agg m=>match a with|.agg l=>aO (l=m)∧Gc m=true|_=>False
 |_=>False
def pq (ρ:List (Nat×Nat))(N:Nat):List AV→List AV→Prop|[],[]=>True|a::l,b::m=>z8 ρ N a b∧pq ρ N l m|_,_=>False
def yx (st:AS)(chk:List Nat→Bool)(ρ:List (Nat×Nat))(N:Nat)(a b:AV):Prop:=match b with
 |.any=>True|.d y=>match a with|.d x=>aO (x=y)|a=>nM st a fun d us=>aO (d=y)∧chk us=true
 |.op k i j=>match a with|.op k' i' j'=>k'=dX ρ k∧i'=i∧j'=j∧Nat.blt (k/16) N=true|_=>False
 |.os k=>match a with|.os k'=>k'=dX ρ k∧Nat.blt (k/16) N=true|.nl _=>14=dX ρ k∧Nat.blt (k/16) N=true|_=>False
 |.nl s=>match a with|.nl s'=>s'=s|_=>False
 |.pp y j=>match a with|.pp x i=>aO (x=y)∧i=j|_=>False
 |.gp g=>match a with|.gp g'=>g'=g|_=>False
 |.fn g xs ys=>match a with|.fn g' xs' ys'=>g'=g∧pq ρ N xs' xs∧pq ρ N ys' ys|_=>False
 |_=>False
def ma (st:AS)(chk:List Nat→Bool)(ρ:List (Nat×Nat))(N:Nat):List AV→List AV→Prop|[],[]=>True|a::l,b::m=>yx st chk ρ N a b∧ma st chk ρ N l m|_,_=>False
def DS (st:AS)(chk:List Nat→Bool)(ρ:List (Nat×Nat))(N:Nat)(a b:AV):Prop:=match b with
 |.agg m=>match a with|.agg l=>ma st chk ρ N l m|_=>False
 |.tup m=>match a with|.tup l=>ma st chk ρ N l m|_=>False
 |b=>yx st chk ρ N a b
def BY (st:AS)(chk:List Nat→Bool)(ρ:List (Nat×Nat))(N:Nat)(env:List (Nat×AV)):List (Nat×AV)→Prop|[]=>True|(t,b)::r=>aW env t (fun a=>DS st chk ρ N a b)∧BY st chk ρ N env r
def DG (T:Option TypeId)(T':Option TypeId):Prop:=match T' with|none=>True|some U=>T=some U
theorem DG.ty {T T':Option TypeId}(h:DG T T'):∀U,T'=some U→T=some U:=by intro U hU;subst hU;exact h
def iW (st:AS)(chk:List Nat→Bool)(ρ:List (Nat×Nat))(N:Nat)(e e':aS):Prop:=match e,e' with|.box l T,.box m T'=>ma st chk ρ N l m∧m.all AV.one=true∧DG T T'|.arr s xs,.arr s' ys=>s=s'∧aO (xs=ys)|.buf s xs T,.buf s' ys T'=>s=s'∧aO (xs=ys)∧DG T T'|.iset l,.iset m=>aO (l=m)|.iters s i,.iters s' j=>s=s'∧aO (i=j)|_,_=>False
def Ga (chk:List Nat→Bool)(ρ:List (Nat×Nat))(N:Nat)(st:AS):List (Nat×Option aS)→Prop|[]=>True|(k,some e')::r=>(Nat.blt (k/16) N=true∧iH st (dX ρ k) fun e=>iW st chk ρ N e e')∧Ga chk ρ N st r|(_,none)::_=>False
def Ig (ρ:List (Nat×Nat)):List (Nat×Option aS)→Bool|[]=>true|(k,_)::r=>(r.all fun x=>!Nat.beq (dX ρ k) (dX ρ x.1))&&Ig ρ r
def L1 (e:aS):Prop:=match e with|.buf _ xs _=>aO (xs=[])|_=>False
theorem HB {e:aS}(h:L1 e):∃s T,e=.buf s [] T:=by
 unfold L1 at h;split at h;·have h:=h.out;subst h;exact⟨_,_,rfl⟩
 ·cases h
def uT (chk:List Nat→Bool)(ρ:List (Nat×Nat))(N:Nat)(st:AS):List (Nat×Option aS)→Prop|[]=>True|(k,some e')::r=>(match Nat.beq (dX ρ k) 14 with|true=>Nat.blt (k/16) N=true∧L1 e'|false=>Nat.blt (k/16) N=true∧iH st (dX ρ k) fun e=>iW st chk ρ N e e')∧uT chk ρ N st r|(_,none)::_=>False
def EJ (ρ:List (Nat×Nat)):List (Nat×Option aS)→Bool|[]=>true|(k,_)::r=>(Nat.beq (dX ρ k) 14||r.all fun x=>!Nat.beq (dX ρ k) (dX ρ x.1))&&EJ ρ r
def fixB (ρ:List (Nat×Nat)):Bool:=ρ.all fun x=>Nat.ble 16 x.1
theorem wW {ρ:List (Nat×Nat)}(h:fixB ρ=true){k:Nat}(hk:k<16):dX ρ k=k:=by unfold dX;cases hl:look ρ k with|none=>rfl;|some j=>have:=List.all_eq_true.1 h _ (iP hl);have:=Nat.le_of_ble_eq_true this;simp only at this;omega
def dV (ρ:List (Nat×Nat))(own:List (Nat×Option aS)):List Nat:=own.map fun x=>dX ρ x.1
def sE (l:List Nat)(us:List Nat):Bool:=!jN us l
def D8 (ρ:List (Nat×Nat))(st st':AS):Prop:=BY st (sE (dV ρ st'.own)) ρ st'.nx st.env st'.env∧uT (sE (dV ρ st'.own)) ρ st'.nx st st'.own∧EJ ρ st'.own=true∧(fixB ρ&&Nat.ble 1 st'.nx)=true
theorem yu {ρ:List (Nat×Nat)}{N:Nat}{w:World}{α:Nat→dh}{X X':Nat→Prop}(hX:∀b,X' b→X b){a b:AV}{v:Value}(h:z8 ρ N a b)(hr:co w α X a v):co w (fun k=>α (dX ρ k)) X' b v∧b.ok (fun k=>k/16<N):=by
 have hm:∀{x:D}{u:Value},Rd w X x u→Rd w X' x u:=fun h=>h.mono fun b o hb hn=>⟨hb,fun h=>hn (hX b h)⟩;unfold z8 at h;split at h;·exact⟨.any v,.any⟩
 ·split at h;·have h:=h.out;subst h;exact⟨.d _ _ (hm hr.dinv),.d _⟩
  ·cases h
 ·split at h;·obtain⟨rfl,rfl,rfl,hk⟩:=h;cases hr;exact⟨.op _ _ _,.op _ _ _ (gV hk)⟩
  ·cases h
 ·split at h;·obtain⟨rfl,hk⟩:=h;cases hr with|os _ ho=>exact⟨co.os (α:=fun k=>α (dX ρ k)) _ ho,.os _ (gV hk)⟩
  ·cases h
 ·split at h;·subst h;cases hr;exact⟨.nl _,.nl _⟩
  ·cases h
 ·split at h;·obtain⟨h0,rfl⟩:=h;have h0:=h0.out;subst h0;cases hr with|pp _ _ blk off arr T fz f hh hx h1 h2=>exact⟨.pp _ _ blk off arr T fz f hh (fun h=>hx (hX _ h)) h1 fun j c hc=>hm (h2 j c hc),.pp _ _⟩
  ·cases h
 ·split at h;·subst h;cases hr;exact⟨.gp _,.gp _⟩
  ·cases h
 ·split at h;·obtain⟨h0,h1⟩:=h;have h0:=h0.out;subst h0;exact CF h1 hr
  ·cases h
 ·cases h
theorem jf {ρ:List (Nat×Nat)}{N:Nat}{w:World}{α:Nat→dh}{X X':Nat→Prop}(hX:∀b,X' b→X b):∀{l m:List AV},pq ρ N l m→l.length=m.length∧∀(j:Nat)(a b:AV),l[j]?=some a→m[j]?=some b→∀v,co w α X a v→co w (fun k=>α (dX ρ k)) X' b v∧b.ok (fun k=>k/16<N)
 |[],[],_=>⟨rfl,fun j a b h=>by simp at h⟩|a::l,b::m,h=>by obtain⟨h1,h2⟩:=jf hX h.2;refine⟨by simp[h1],fun j x y hx hy v hr=>?_⟩;cases j with|zero=>simp at hx hy;subst hx hy;exact yu hX h.1 hr;|succ j=>exact h2 j x y (by simpa using hx) (by simpa using hy) v hr
 |[],_::_,h=>h.elim|_::_,[],h=>h.elim
structure LeW (st:AS)(chk:List Nat→Bool)(w:World)(α:Nat→dh)(X X':Nat→Prop):Prop where
 sub:∀b,X' b→X b
 own:∀us,chk us=true→∀k,k∈us→∀e,st.ss.own k=some e→lj w α X k e
 out:∀us,chk us=true→∀k,k∈us→∀e,st.ss.own k=some e→(α k).nil=false→¬X' (α k).blk
 nil0:(α 14).hv=.slice none 0 0
theorem BU {l m:List Nat}(h:jN l m=false){x:Nat}(hx:x∈l):x∉m:=by intro hm;have:=sV.2 ⟨x,hx,hm⟩;rw[h] at this;cases this
theorem jz {st:AS}{chk:List Nat→Bool}{ρ:List (Nat×Nat)}{N:Nat}{w:World}{α:Nat→dh}{X X':Nat→Prop}(hW:LeW st chk w α X X'){a b:AV}{v:Value}(h:yx st chk ρ N a b)(hr:co w α X a v):co w (fun k=>α (dX ρ k)) X' b v∧b.ok (fun k=>k/16<N):=by
 have hX:=hW.sub;have hm:∀{x:D}{u:Value},Rd w X x u→Rd w X' x u:=fun h=>h.mono fun b o hb hn=>⟨hb,fun h=>hn (hX b h)⟩;unfold yx at h;split at h;·exact⟨.any v,.any⟩
 ·split at h;·have h:=h.out;subst h;exact⟨.d _ _ (hm hr.dinv),.d _⟩
  ·obtain⟨d,us,⟨h1,h2⟩,h3⟩:=iV h;have h1:=h1.out;subst h1;refine⟨.d _ _ (h3.rd w α X X' v hr (fun k hk e he=>hW.own us h2 k hk e he) hX fun k hk hnil=>?_),.d _⟩;obtain⟨e,he⟩:=h3.ent k hk;exact hW.out us h2 k hk e he hnil
 ·split at h;·obtain⟨rfl,rfl,rfl,hk⟩:=h;cases hr;exact⟨.op _ _ _,.op _ _ _ (gV hk)⟩
  ·cases h
 ·rename_i k;split at h;·obtain⟨rfl,hk⟩:=h;cases hr with|os _ ho=>exact⟨co.os (α:=fun k=>α (dX ρ k)) _ ho,.os _ (gV hk)⟩
  ·obtain⟨h14,hk⟩:=h;cases hr;have e:α (dX ρ k)=α 14:=by rw[←h14]
   have:=co.os (w:=w) (α:=fun k=>α (dX ρ k)) (X:=X') k (by rw[e,hW.nil0];rfl);rw[e,hW.nil0] at this;exact⟨this,.os _ (gV hk)⟩
  ·cases h
 ·split at h;·subst h;cases hr;exact⟨.nl _,.nl _⟩
  ·cases h
 ·split at h;·obtain⟨h0,rfl⟩:=h;have h0:=h0.out;subst h0;cases hr with|pp _ _ blk off arr T fz f hh hx h1 h2=>exact⟨.pp _ _ blk off arr T fz f hh (fun h=>hx (hX _ h)) h1 fun j c hc=>hm (h2 j c hc),.pp _ _⟩
  ·cases h
 ·split at h;·subst h;cases hr;exact⟨.gp _,.gp _⟩
  ·cases h
 ·split at h
  ·obtain⟨rfl,h1,h2⟩:=h;obtain⟨h3,h4⟩:=jf (w:=w) (α:=α) hX h1;obtain⟨h5,h6⟩:=jf (w:=w) (α:=α) hX h2;have go:∀{l m:List AV}{vs:Array Value},l.length=m.length→(∀(j:Nat)(a b:AV),l[j]?=some a→m[j]?=some b→∀v,co w α X a v→co w (fun k=>α (dX ρ k)) X' b v∧b.ok (fun k=>k/16<N))→l.length=vs.size→(∀(j:Nat)(c:AV)(v:Value),l[j]?=some c→vs[j]?=some v→co w α X c v)→m.length=vs.size∧(∀(j:Nat)(c:AV)(v:Value),m[j]?=some c→vs[j]?=some v→co w (fun k=>α (dX ρ k)) X' c v)∧∀c,c∈m→c.ok (fun k=>k/16<N):=by
    intro l m vs h1 h2 hl hc;have hg:∀(j:Nat)(c:AV),m[j]?=some c→∃a u,l[j]?=some a∧vs[j]?=some u:=by intro j c hj;have:j<m.length:=(Nc.1 hj).1;exact⟨l[j]'(by omega),vs[j]'(by omega),by simp[show j<l.length by omega],by simp[show j<vs.size by omega]⟩
    refine⟨by omega,fun j c u hj hu=>?_,fun c hc'=>?_⟩;·obtain⟨a,u',ha,_⟩:=hg j c hj;exact(h2 j a c ha hj u (hc j a u ha hu)).1
    ·obtain⟨j,hj⟩:=List.mem_iff_getElem?.1 hc';obtain⟨a,u',ha,hu⟩:=hg j c hj;exact(h2 j a c ha hj u' (hc j a u' ha hu)).2
   cases hr with|fn _ _ _ va vb l1 l2 c1 c2=>obtain⟨q1,q2,q3⟩:=go h3 h4 l1 c1;obtain⟨q4,q5,q6⟩:=go h5 h6 l2 c2;exact⟨.fn _ _ _ va vb q1 q4 q2 q5,.fn _ _ _ q3 q6⟩
  ·cases h
 ·cases h
theorem jk {st:AS}{chk:List Nat→Bool}{ρ:List (Nat×Nat)}{N:Nat}:∀{l m:List AV},ma st chk ρ N l m→l.length=m.length∧∀(j:Nat)(a b:AV),l[j]?=some a→m[j]?=some b→yx st chk ρ N a b
 |[],[],_=>⟨rfl,fun j a b h=>by simp at h⟩|a::l,b::m,h=>by obtain⟨h1,h2⟩:=jk h.2;refine⟨by simp[h1],fun j x y hx hy=>?_⟩;cases j with|zero=>simp at hx hy;subst hx hy;exact h.1;|succ j=>exact h2 j x y (by simpa using hx) (by simpa using hy)
 |[],_::_,h=>h.elim|_::_,[],h=>h.elim
theorem nX {st:AS}{chk:List Nat→Bool}{ρ:List (Nat×Nat)}{N:Nat}{w:World}{α:Nat→dh}{X X':Nat→Prop}(hW:LeW st chk w α X X'){a b:AV}{v:Value}(h:DS st chk ρ N a b)(hr:co w α X a v):co w (fun k=>α (dX ρ k)) X' b v∧b.ok (fun k=>k/16<N):=by
 have go:∀{l m:List AV}{vs:Array Value},ma st chk ρ N l m→l.length=vs.size→(∀(j:Nat)(c:AV)(v:Value),l[j]?=some c→vs[j]?=some v→co w α X c v)→m.length=vs.size∧(∀(j:Nat)(c:AV)(v:Value),m[j]?=some c→vs[j]?=some v→co w (fun k=>α (dX ρ k)) X' c v)∧∀c,c∈m→c.ok (fun k=>k/16<N):=by
  intro l m vs h hl hc;obtain⟨h1,h2⟩:=jk h;have hg:∀(j:Nat)(c:AV),m[j]?=some c→∃a u,l[j]?=some a∧vs[j]?=some u:=by intro j c hj;have:j<m.length:=(Nc.1 hj).1;exact⟨l[j]'(by omega),vs[j]'(by omega),by simp[show j<l.length by omega],by simp[show j<vs.size by omega]⟩
  refine⟨by omega,fun j c u hj hu=>?_,fun c hc'=>?_⟩;·obtain⟨a,u',ha,_⟩:=hg j c hj;exact(jz hW (h2 j a c ha hj) (hc j a u ha hu)).1
  ·obtain⟨j,hj⟩:=List.mem_iff_getElem?.1 hc';obtain⟨a,u',ha,hu⟩:=hg j c hj;exact(jz hW (h2 j a c ha hj) (hc j a u' ha hu)).2
 unfold DS at h;split at h
 ·split at h;·cases hr with|agg _ vs hl hc=>obtain⟨h1,h2,h3⟩:=go h hl hc;exact⟨.agg _ vs h1 h2,.agg _ h3⟩
  ·cases h
 ·split at h;·cases hr with|tup _ vs hl hc=>obtain⟨h1,h2,h3⟩:=go h hl hc;exact⟨.tup _ vs h1 h2,.tup _ h3⟩
  ·cases h
 ·exact jz hW h hr
theorem n8 {st:AS}{chk:List Nat→Bool}{ρ:List (Nat×Nat)}{N:Nat}{env:List (Nat×AV)}:∀{l:List (Nat×AV)},BY st chk ρ N env l→∀t b,look l t=some b→∃a,look env t=some a∧DS st chk ρ N a b
 |[],_,t,b,h=>by simp[look] at h;|(y,c)::r,h,t,b,hl=>by
  simp only[look] at hl;split at hl;·rename_i hb;cases hl;have:=Nd hb;subst this;exact aJ h.1
  ·exact n8 h.2 t b hl
theorem t6 {chk:List Nat→Bool}{ρ:List (Nat×Nat)}{N:Nat}{st:AS}:∀{l:List (Nat×Option aS)},Ga chk ρ N st l→∀k oe,look l k=some oe→∃e' e,oe=some e'∧k/16<N∧st.ss.own (dX ρ k)=some e∧iW st chk ρ N e e'
 |[],_,k,oe,h=>by simp[look] at h;|(y,some e')::r,h,k,oe,hl=>by
  simp only[look] at hl;split at hl;·rename_i hb;cases hl;have:=Nd hb;subst this;obtain⟨e,h1,h2⟩:=cQ h.1.2;exact⟨e',e,rfl,gV h.1.1,h1,h2⟩
  ·exact t6 h.2 k oe hl;|(_,none)::_,h,_,_,_=>h.elim
theorem rX {chk:List Nat→Bool}{ρ:List (Nat×Nat)}{N:Nat}{st:AS}:∀{l:List (Nat×Option aS)},uT chk ρ N st l→∀k oe,look l k=some oe→∃e',oe=some e'∧k/16<N∧((dX ρ k=14∧∃s T,e'=.buf s [] T)∨(dX ρ k≠14∧∃e,st.ss.own (dX ρ k)=some e∧iW st chk ρ N e e'))
 |[],_,k,oe,h=>by simp[look] at h;|(y,some e')::r,h,k,oe,hl=>by
  simp only[look] at hl;split at hl
  ·rename_i hb;cases hl;have:=Nd hb;subst this;have h1:=h.1;split at h1;·rename_i h14;exact⟨e',rfl,gV h1.1,.inl ⟨Nd h14,HB h1.2⟩⟩
   ·rename_i h14;obtain⟨e,h3,h4⟩:=cQ h1.2;exact⟨e',rfl,gV h1.1,.inr ⟨fun he=>by rw[he] at h14;simp at h14,e,h3,h4⟩⟩
  ·exact rX h.2 k oe hl;|(_,none)::_,h,_,_,_=>h.elim
theorem yy {ρ:List (Nat×Nat)}:∀{l:List (Nat×Option aS)},EJ ρ l=true→∀k k' oe oe',look l k=some oe→look l k'=some oe'→dX ρ k=dX ρ k'→dX ρ k≠14→k=k'
 |[],_,k,_,_,_,h,_,_,_=>by simp[look] at h;|(y,e)::r,h,k,k',oe,oe',h1,h2,he,hn=>by
  simp only[EJ,Bool.and_eq_true,Bool.or_eq_true] at h;have no:dX ρ y≠14→∀j o,look r j=some o→dX ρ y≠dX ρ j:=by
   intro hy j o hj hr;rcases h.1 with h3|h3;·exact hy (Nd h3)
   ·have:=List.all_eq_true.1 h3 _ (iP hj);simp[hr] at this
  simp only[look] at h1 h2;cases hb:Nat.beq k y<;>cases hb':Nat.beq k' y<;>simp only[hb,hb'] at h1 h2;·exact yy h.2 k k' oe oe' h1 h2 he hn
  ·have e1:=Nd hb';subst e1;exact absurd he.symm (no (he▸hn) _ _ h1)
  ·have e1:=Nd hb;subst e1;exact absurd he (no hn _ _ h2)
  ·rw[Nd hb,Nd hb']
theorem wB {ρ:List (Nat×Nat)}:∀{l:List (Nat×Option aS)},Ig ρ l=true→∀k k' oe oe',look l k=some oe→look l k'=some oe'→dX ρ k=dX ρ k'→k=k'
 |[],_,k,_,_,_,h,_,_=>by simp[look] at h;|(y,e)::r,h,k,k',oe,oe',h1,h2,he=>by
  simp only[Ig,Bool.and_eq_true] at h;have hall:=List.all_eq_true.1 h.1;have no:∀j o,look r j=some o→dX ρ y≠dX ρ j:=by intro j o hj hr;have:=hall _ (iP hj);simp[hr] at this
  simp only[look] at h1 h2;cases hb:Nat.beq k y<;>cases hb':Nat.beq k' y<;>simp only[hb,hb'] at h1 h2;·exact wB h.2 k k' oe oe' h1 h2 he
  ·rw[Nd hb'] at he;exact absurd he.symm (no _ _ h1)
  ·rw[Nd hb] at he;exact absurd he (no _ _ h2)
  ·rw[Nd hb,Nd hb']
theorem Ag {st:AS}{chk:List Nat→Bool}{ρ:List (Nat×Nat)}{N:Nat}{e e':aS}(h:iW st chk ρ N e e'):e.sz=e'.sz∧e.len=e'.len:=by
 unfold iW at h;split at h;·exact⟨(jk h.1).1,rfl⟩
 ·obtain⟨rfl,h⟩:=h;have h:=h.out;subst h;exact⟨rfl,rfl⟩
 ·obtain⟨rfl,h,_⟩:=h;have h:=h.out;subst h;exact⟨rfl,rfl⟩
 ·exact⟨rfl,rfl⟩
 ·exact⟨rfl,rfl⟩
 ·cases h
theorem xh {st:AS}{chk:List Nat→Bool}{ρ:List (Nat×Nat)}{N:Nat}{e e':aS}(h:iW st chk ρ N e e'):(∃l m T T',e=.box l T∧e'=.box m T'∧ma st chk ρ N l m∧m.all AV.one=true∧DG T T')∨(∃s xs,e=.arr s xs∧e'=.arr s xs)∨(∃s xs T T',e=.buf s xs T∧e'=.buf s xs T'∧DG T T')∨(∃Q mp,e=e'∧e'.obj=some (Q,mp)):=by
 unfold iW at h;split at h;·exact .inl ⟨_,_,_,_,rfl,rfl,h⟩
 ·obtain⟨rfl,h⟩:=h;have h:=h.out;subst h;exact .inr (.inl ⟨_,_,rfl,rfl⟩)
 ·obtain⟨rfl,h,ht⟩:=h;have h:=h.out;subst h;exact .inr (.inr (.inl ⟨_,_,_,_,rfl,rfl,ht⟩))
 ·have h:=h.out;subst h;exact .inr (.inr (.inr ⟨_,_,rfl,rfl⟩))
 ·obtain⟨rfl,h⟩:=h;have h:=h.out;subst h;exact .inr (.inr (.inr ⟨_,_,rfl,rfl⟩))
 ·cases h
theorem kV {st:AS}{chk:List Nat→Bool}{ρ:List (Nat×Nat)}{N:Nat}{w:World}{α:Nat→dh}{X X':Nat→Prop}(hW:LeW st chk w α X X'){k:Nat}{e e':aS}(h6:iW st chk ρ N e e')(ho:lj w α X (dX ρ k) e):lj w (fun k=>α (dX ρ k)) X' k e'∧∀x,x∈e'.vars→x.ok (fun k=>k/16<N):=by
 obtain⟨hsz,hlen⟩:=Ag h6;have hm:∀{x:D}{u:Value},Rd w X x u→Rd w X' x u:=fun h=>h.mono fun b o hb hn=>⟨hb,fun h=>hn (hW.sub b h)⟩;rcases xh h6 with⟨l,m',T1,T2,rfl,rfl,hc1,hc2,hc3⟩|⟨s,xs,rfl,rfl⟩|⟨s,xs,T1,T2,rfl,rfl,hty⟩|⟨Q,mp,rfl,hobj⟩;rotate_right
 ·have hvars:e.vars=[]:=by cases e<;>first|rfl|cases hobj
  refine⟨?_,fun x hx=>by rw[hvars] at hx;cases hx⟩;rcases ho.cases with(⟨_,⟨sz,_,he⟩,_⟩|⟨hnil,arr,T,fz,cap,hB⟩)|⟨Q',mp',he',hO⟩;·subst he;cases hobj
  ·have:=hB.wid;cases e<;>first|exact this.elim|(cases hobj;done)
  ·exact lj.ofO he' hO
 ·rcases ho with⟨_,⟨sz,_,he⟩,_⟩|⟨hnil,arr,T,fz,cap,hB⟩;·cases he
  obtain⟨hl1,hl2⟩:=jk hc1;have hget:∀(m:Nat)(c:AV),m'[m]?=some c→∃u,arr[(α (dX ρ k)).off+0*(aS.box l T1).sz+m]?=some u∧co w (fun k=>α (dX ρ k)) X' c u∧c.ok (fun k=>k/16<N):=by
   intro m c hc;have hlt:m<l.length:=by rw[hl1];exact(Nc.1 hc).1
   obtain⟨u,h7,h8⟩:=hB.rd 0 m l[m] (by simp[aS.cell,hlt]);have:=jz hW (hl2 m _ c (by simp[hlt]) hc) h8;exact⟨u,h7,this.1,this.2⟩
  refine⟨.inr ⟨hnil,arr,T,fz,cap,hB.heap,by rw[←hsz];exact hB.hsz,by rw[←hlen];exact hB.len,by rw[←hsz];exact hB.bnd,by rw[←hsz];exact hB.nf,List.all_eq_true.1 hc2,fun j m c hc=>?_,(fun sz xs _ he=>by cases he),hB.hone,fun V hV=>⟨(hB.ty V (hc3.ty V hV)).1,(hB.ty V (hc3.ty V hV)).2.1,fun cs V' h=>by cases h;rw[←hl1];exact(hB.ty V (hc3.ty V hV)).2.2 l T1 rfl⟩⟩,fun x hx=>?_⟩
  ·rw[←hsz];simp only[aS.cell] at hc;split at hc;·rename_i hj;subst hj;obtain⟨u,h7,h8,_⟩:=hget m c hc;exact⟨u,h7,h8⟩
   ·cases hc
  ·obtain⟨m,hm'⟩:=List.mem_iff_getElem?.1 (show x∈m' from hx);obtain⟨u,_,_,h9⟩:=hget m x hm';exact h9
 ·refine⟨?_,fun x hx=>by cases hx⟩;rcases ho with⟨_,⟨sz,_,he⟩,_⟩|⟨hnil,arr,T,fz,cap,hB⟩;·cases he
  ·refine .inr ⟨hnil,arr,T,fz,cap,hB.heap,hB.hsz,hB.len,hB.bnd,hB.nf,hB.wid,fun j m c hc=>?_,hB.hv,hB.hone,hB.ty⟩;obtain⟨u,h7,h8⟩:=hB.rd j m c hc;refine⟨u,h7,?_⟩;simp only[aS.cell,Nu,Nk] at hc;obtain⟨x,_,y,_,rfl⟩:=hc;exact .d _ _ (hm h8.dinv)
 ·refine⟨?_,fun x hx=>by cases hx⟩;rcases ho with⟨hnil,⟨sz,_,he⟩,hv⟩|⟨hnil,arr,T,fz,cap,hB⟩;·cases he;exact .inl ⟨hnil,⟨_,_,rfl⟩,hv⟩
  ·refine .inr ⟨hnil,arr,T,fz,cap,hB.heap,hB.hsz,hB.len,hB.bnd,hB.nf,hB.wid,fun j m c hc=>?_,fun sz xs _ h=>by cases h;exact hB.hv _ _ _ rfl,hB.hone,fun V hV=>⟨(hB.ty V (hty.ty V hV)).1,(hB.ty V (hty.ty V hV)).2.1,fun cs V' h=>by cases h⟩⟩;obtain⟨u,h7,h8⟩:=hB.rd j m c hc;refine⟨u,h7,?_⟩;simp only[aS.cell,Nu,Nk] at hc;obtain⟨x,_,y,_,rfl⟩:=hc;exact .d _ _ (hm h8.dinv)
theorem eG {st:AS}{k:Nat}{e:aS}(h:st.ss.own k=some e):look st.own k=some (some e):=by simp only[AS.ss] at h;cases hl:look st.own k with|none=>simp[hl] at h;|some oe=>simp only[hl] at h;rw[h]
theorem iL {ρ:List (Nat×Nat)}{own:List (Nat×Option aS)}{k:Nat}{oe:Option aS}(h:look own k=some oe):dX ρ k∈dV ρ own:=List.mem_map.2 ⟨(k,oe),iP h,rfl⟩
structure LeD (ρ:List (Nat×Nat))(st st':AS):Prop where
 env:BY st (sE (dV ρ st'.own)) ρ st'.nx st.env st'.env
 DO:uT (sE (dV ρ st'.own)) ρ st'.nx st st'.own
 inj:EJ ρ st'.own=true
 nil:dX ρ 14=14
 nx:Nat.ble 1 st'.nx=true
theorem LeD.sim {ρ:List (Nat×Nat)}{st st':AS}(h:LeD ρ st st'){G:List Gl}{X0:Nat→Prop}{F:Fr}{w0:World}{n:Nat}{α:Nat→dh}{a:Act}{w:World}(hs:dn G X0 F w0 n (b9 st) α st.ss a w)(hfix:∀k l,F.fix k=some l→k<16∧dX ρ k=k):dn G X0 F w0 n (b9 st') (fun k=>α (dX ρ k)) st'.ss a w:=by
 obtain⟨h1,h2,h3,hr14,hf2⟩:=h;have hown:∀k e',st'.ss.own k=some e'→k/16<st'.nx∧look st'.own k=some (some e')∧((dX ρ k=14∧∃s T,e'=.buf s [] T)∨(dX ρ k≠14∧∃e,st.ss.own (dX ρ k)=some e∧iW st (sE (dV ρ st'.own)) ρ st'.nx e e')):=by intro k e' hk;have hl:=eG hk;obtain⟨e1,h4,h5,h6⟩:=rX h2 k _ hl;cases h4;exact⟨h5,hl,h6⟩
 have hnil:∀k e',st'.ss.own k=some e'→(α (dX ρ k)).nil=false→∃e,k/16<st'.nx∧st.ss.own (dX ρ k)=some e∧iW st (sE (dV ρ st'.own)) ρ st'.nx e e'∧look st'.own k=some (some e')∧dX ρ k≠14:=by
  intro k e' hk hn;obtain⟨h5,h6,h7|⟨h7,e,h8,h9⟩⟩:=hown k e' hk;·rw[h7.1,hs.nil0.1] at hn;cases hn
  ·exact⟨e,h5,h8,h9,h6,h7⟩
 have hX:∀b,XX (fun k=>α (dX ρ k)) st'.ss.own X0 b→XX α st.ss.own X0 b:=by
  rintro b (⟨k,e',hk,hn,rfl⟩|hx);·obtain⟨e,_,h5,_⟩:=hnil k e' hk hn;exact .inl ⟨_,e,h5,hn,rfl⟩
  ·exact .inr hx
 have hW:LeW st (sE (dV ρ st'.own)) w α (XX α st.ss.own X0) (XX (fun k=>α (dX ρ k)) st'.ss.own X0):=by
  refine⟨hX,fun _ _ k _ e he=>hs.own k e he,fun us hus k hku e hk hnl=>?_,hs.nil0.2.1⟩;have hnk:k∉dV ρ st'.own:=BU (by simpa[sE] using hus) hku;rintro(⟨k',e',hk',hnl',hb⟩|hx);·obtain⟨e2,_,h5,_,h7,_⟩:=hnil k' e' hk' hnl';have:=hs.inj _ _ _ _ h5 hk hnl' hnl hb;exact hnk (this▸iL h7)
  ·exact(hs.mine k e hk hnl).2 hx
 refine⟨hs.size,hs.defers,fun t b ht=>?_,fun t b ht=>?_,fun k e' hk=>?_,fun k e' hk=>?_,fun k e k' e' hk hk' hn hn' hb=>?_,fun k e' hk hn=>?_,hs.x0,hs.fr,hs.grow,hs.os,hs.tape,hs.output,hs.gl,fun k l hk=>?_,?_⟩;·obtain⟨a,ha,hl⟩:=n8 h1 t b ht;exact(nX hW hl (hs.env t a ha)).1
 ·obtain⟨a,ha,hl⟩:=n8 h1 t b ht;exact(nX hW hl (hs.env t a ha)).2
 ·obtain⟨_,_,⟨h7,s,T,rfl⟩|⟨_,e,h5,h6⟩⟩:=hown k e' hk;·exact .inl ⟨by show(α (dX ρ k)).nil=true;rw[h7];exact hs.nil0.1,⟨s,T,rfl⟩,by show(α (dX ρ k)).hv=_;rw[h7];exact hs.nil0.2.1⟩
  ·exact(kV hW h6 (hs.own _ e h5)).1
 ·obtain⟨h4,_,⟨h7,s,T,rfl⟩|⟨_,e,h5,h6⟩⟩:=hown k e' hk;·exact⟨h4,fun x hx=>by cases hx⟩
  ·exact⟨h4,(kV hW h6 (hs.own _ e h5)).2⟩
 ·obtain⟨e1,_,h5,_,h6,h9⟩:=hnil k e hk hn;obtain⟨e2,_,h7,_,h8,_⟩:=hnil k' e' hk' hn';exact yy h3 k k' _ _ h6 h8 (hs.inj _ _ _ _ h5 h7 hn hn' hb) h9
 ·obtain⟨e,_,h5,_⟩:=hnil k e' hk hn;exact hs.mine _ e h5 hn
 ·obtain⟨h4,h4'⟩:=hfix k l hk;obtain⟨h5,h6⟩:=hs.fix k l hk;refine⟨?_,?_⟩;case refine_2=>simp only[b9] at h6⊢;have:=Nat.le_of_ble_eq_true hf2;omega
  show α (dX ρ k)=l;rw[h4'];exact(hs.fix k l hk).1
 ·show(α (dX ρ 14)).nil=true∧(α (dX ρ 14)).hv=_∧_;rw[hr14];refine⟨hs.nil0.1,hs.nil0.2.1,?_⟩;have:=Nat.le_of_ble_eq_true hf2;show 14/16<st'.nx;omega
theorem D8.sim {ρ:List (Nat×Nat)}{st st':AS}(h:D8 ρ st st'){G:List Gl}{X0:Nat→Prop}{F:Fr}{w0:World}{n:Nat}{α:Nat→dh}{a:Act}{w:World}(hs:dn G X0 F w0 n (b9 st) α st.ss a w)(hfix:∀k l,F.fix k=some l→k<16):dn G X0 F w0 n (b9 st') (fun k=>α (dX ρ k)) st'.ss a w:=by obtain⟨h1,h2,h3,hf⟩:=h;simp only[Bool.and_eq_true] at hf;exact LeD.sim ⟨h1,h2,h3,wW hf.1 (by omega),hf.2⟩ hs fun k l hk=>⟨hfix k l hk,wW hf.1 (hfix k l hk)⟩
end Go.Eng
