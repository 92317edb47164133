/- A part of the proof of what is stated of the erasing of a mirror. -/
import Derived.Test.YtgfdbddglhblbaaGreatQab
import Derived.Deep.AppendSrc
import Derived.Lib.ConvBytes
import Derived.Laws.BytesArg
import Derived.Laws.IdiomCopy
set_option maxHeartbeats 64000000
namespace Go.Eng
def Jt (i j:Nat)(K:Nat→Prop):Prop:=match i with|0=>K j|i=>K (i+j)
theorem yk {i j:Nat}{K:Nat→Prop}(h:Jt i j K):K (i+j):=by
 unfold Jt at h;split at h;·simpa using h
 ·exact h
theorem Addr.add_mk (b off n:Nat):(Addr.mk b off none).add n=⟨b,off+n,none⟩:=by unfold Addr.add;split<;>simp_all
theorem xz {G:List Gl}{X0:Nat→Prop}{F:Fr}{w0:World}{n:Nat}{p:Nat→Prop}{α:Nat→dh}{S:SS}{a:Act}{w:World}(hs:dn G X0 F w0 n p α S a w){x:Gl}(hx:x∈G):∃arr T fz,w.heap[x.g]?=some (.cells arr T fz)∧¬XX α S.own X0 x.g∧arr.size=x.xs.length*x.sz∧(∀(j:Nat)(d:D),x.xs[j]?=some d→d.wd x.sz)∧∀(j m:Nat)(d c:D),x.xs[j]?=some d→d.cells[m]?=some c→∃v,arr[j*x.sz+m]?=some v∧Rd w (XX α S.own X0) c v:=by
 obtain⟨h1,h2,h3,arr,T,fz,h4,hsz,h5,h6⟩:=hs.gl x hx;have hX:∀b,b<w0.heap.size→¬(X0 b∨F b)→¬XX α S.own X0 b:=by
  rintro b hb hn (⟨k,e,hk,hnil,rfl⟩|h0)
  ·rcases (hs.mine k e hk hnil).1 with hge|hf;·omega
   ·exact hn (.inr hf)
  ·exact hn (.inl h0)
 refine⟨arr,T,fz,by rw[hs.fr x.g h1 h2];exact h4,hX x.g h1 (fun h=>h.elim h3 h2),hsz,h5,fun j m d c hj hm=>?_⟩;obtain⟨v,hv,hr⟩:=h6 j m d c hj hm;refine⟨v,hv,hr.mono fun b o hb hnx=>?_⟩;have hlt:b<w0.heap.size:=by
  rcases Nat.lt_or_ge b w0.heap.size with h|h;·exact h
  ·rw[Array.getElem?_eq_none h] at hb;cases hb
 exact⟨by rw[hs.fr b hlt fun hf=>hnx (.inr hf)];exact hb,hX b hlt hnx⟩
def glK (C:cq)(g:Nat)(K:Gl→Prop):Prop:=go C.G
 where go : List Gl → Prop
  | [] => False
  | x :: l => match Nat.beq x.g g with | true => K x | false => go l
theorem Bw {C:cq}{g:Nat}{K:Gl→Prop}(h:glK C g K):∃x,x∈C.G∧x.g=g∧K x:=by unfold glK at h;generalize C.G=l at h;induction l with|nil=>cases h;|cons x l ih=>
 simp only[glK.go] at h;split at h;·rename_i hb;exact⟨x,List.mem_cons_self,Nd hb,h⟩
 ·obtain⟨y,h1,h2⟩:=ih h;exact⟨y,Nv _ h1,h2⟩
def Ac (C:cq)(T:TypeId)(f:Nat)(a:AV)(K:AV→Prop):Prop:=aW C.tab T fun ti=>match ti.kd with
 |.struct os=>nE os f fun x=>match a with
  |.op k i j=>Jt j x.1 fun j=>K (.op k i j)|.pp d j=>Jt j x.1 fun j=>K (.pp d j)|.gp _=>False|_=>False
 |_=>False
def Af (C:cq)(st:AS)(T:TypeId)(a i:AV)(K:AV→List Nat→Prop):Prop:=aW C.tab T fun ti=>nC i fun _ j=>match ti.kd,a with
 |.slice e,.d (.sl sz xs)=>aW C.tab e fun te=>match Nat.beq te.size sz with
  |true=>IR j xs fun _ x=>K (.pp x 0) []|false=>False
 |.slice e,.os k=>aW C.tab e fun te=>iH st k fun en=>match en with
  |.buf sz xs _=>match Nat.beq te.size sz with
   |true=>Ja j xs.length fun j=>K (.op k j 0) [k]|false=>False
  |_=>False
 |.array m e,.op k 0 0=>aW C.tab e fun te=>iH st k fun en=>match en with
  |.arr sz xs=>match Nat.beq te.size sz with
   |true=>Ei m xs.length (Ja j m fun j=>K (.op k j 0) [k])|false=>False
  |.box _ _=>match Nat.beq te.size 1 with
   |true=>Ja j m fun j=>K (.op k 0 j) [k]|false=>False
  |_=>False
 |.array m e,.gp g=>aW C.tab e fun te=>glK C g fun gl=>match Nat.beq te.size gl.sz,Nat.beq m gl.xs.length with
  |true,true=>IR j gl.xs fun _ x=>K (.pp x 0) []|_,_=>False
 |_,_=>False
section
variable {C:cq}{n:Nat}{o:Oper}{nm:Nat}{st:AS}{K:KO}
def AV.isPtr:AV→Bool|.op ..|.pp ..|.gp ..=>true|_=>false
theorem yN {w:World}{α:Nat→dh}{X:Nat→Prop}{a:AV}{v:Value}(h:co w α X a v)(ha:a.isPtr=true):∃b,v=.pointer (some b):=by
 cases h<;>simp[AV.isPtr] at ha;·exact⟨_,rfl⟩
 ·exact⟨_,rfl⟩
 ·exact⟨_,rfl⟩
def L5 (a:AV)(K:AV→Prop):Prop:=match a with|.op k i j=>K (.op k i j)|.pp d j=>K (.pp d j)|.gp g=>K (.gp g)|_=>False
theorem J3 {x:Operand}(ho:o.op=.nilCheck x)(h:fF st x fun a=>L5 a fun r=>K r [] []):∃out upd rd,K out upd rd∧cr C n o nm st rd out upd:=by
 replace h:=bx h;obtain⟨va,h1,h⟩:=h;have hmem:x∈o.op.operands:=by rw[ho];simp[Op.operands]
 have fin:va.isPtr=true→K va [] []→∃out upd rd,K out upd rd∧cr C n o nm st rd out upd:=by intro hp hk;refine⟨_,_,_,hk,cr.pure fun X0 F w0 p α S a w hs he _=>?_⟩;have hx:=h1.to hmem he;obtain⟨b,hb⟩:=yN (hx.read hs) hp;refine⟨a.eval x,?_,hx.read hs,hx.ok hs⟩;simp[execOp,ho,hb]
 unfold L5 at h;split at h;·exact fin rfl h
 ·exact fin rfl h
 ·exact fin rfl h
 ·cases h
theorem oI {P:Program}{T:TypeId}{ti:iQ}{os:List (Nat×Nat)}(ht:eD P T ti)(hk:ti.kd=.struct os){f:Nat}{x:Nat×Nat}(hx:os[f]?=some x)(b off:Nat)(w:World):(Instr.fieldAt T (.pointer (some ⟨b,off,none⟩)) f).run P w=.ok (.pointer (some ⟨b,off+x.1,none⟩)) w:=by
 obtain⟨fs,hu,hB⟩:=l9 ht hk;obtain⟨fd,i,hf,ho,hty,hi,hz⟩:=tE hB f hx;have hf':fs[f]?=some fd:=by simpa using hf
 have hfp:(fieldPlace ⟨b,off,none⟩ fd).run P w=.ok ⟨b,off+x.1,none⟩ w:=by simp[fieldPlace,sizeOf,typeInfo,hi,hz,Addr.add_mk,ho]
 simp[Instr.fieldAt,underlying,hu,hf',Instr.sureAddr,hfp]
theorem Ci {T:TypeId}{x:Operand}{f:Nat}(ho:o.op=.fieldAddr T x f)(h:fF st x fun a=>Ac C T f a fun r=>K r [] []):∃out upd rd,K out upd rd∧cr C n o nm st rd out upd:=by
 replace h:=bx h;obtain⟨va,h1,h⟩:=h;have hmem:x∈o.op.operands:=by rw[ho];simp[Op.operands]
 unfold Ac at h;replace h:=aJ h;obtain⟨ti,hti,h⟩:=h;cases hk:ti.kd with
 |struct os=>simp only[hk] at h;replace h:=fD h;obtain⟨y,hy,h⟩:=h;cases va with
  |op k i j=>
   simp only at h;replace h:=yk h;refine⟨_,_,_,h,cr.pure fun X0 F w0 p α S a w hs he _=>?_⟩;have hx:=h1.to hmem he;have hr:=hx.read hs;generalize hv:a.eval x=v at hr;cases hr;refine⟨_,by simp[execOp,ho,hv,oI (C.ty hti) hk hy];rfl,?_,?_⟩;·rw[Nat.add_assoc];exact .op k i (j+y.1)
   ·have:=hx.ok hs;cases this with|op _ _ _ hk=>exact .op _ _ _ hk
  |pp d j=>simp only at h;replace h:=yk h;refine⟨_,_,_,h,cr.pure fun X0 F w0 p α S a w hs he _=>?_⟩;have hx:=h1.to hmem he;have hr:=hx.read hs;generalize hv:a.eval x=v at hr;cases hr with|pp _ _ blk off arr U fz g hh hX h2 h3=>refine⟨_,by simp[execOp,ho,hv,oI (C.ty hti) hk hy];rfl,?_,.pp _ _⟩;rw[Nat.add_assoc];exact .pp d (j+y.1) blk off arr U fz g hh hX h2 h3
  |_=>simp only at h
 |_=>simp only[hk] at h
theorem kG {P:Program}{T:TypeId}{ti:iQ}(ht:eD P T ti)(w:World):(sizeOf T).run P w=.ok ti.size w:=by obtain⟨⟨i,hi,hs,_⟩,_⟩:=ht;simp[sizeOf,typeInfo,hi,hs]
theorem io {P:Program}{T e:TypeId}{ti te:iQ}(ht:eD P T ti)(hk:ti.kd=.slice e)(hte:eD P e te)(b off len cap m:Nat)(k:IntKind)(hm:m<len)(w:World):(Instr.indexAt T (.slice (some ⟨b,off,none⟩) len cap) (.int k (m:Int))).run P w=.ok (.pointer (some ⟨b,off+m*te.size,none⟩)) w:=by
 have hu:=cM ht hk;have h1:(0:Int)≤(m:Int)∧(m:Int)<(len:Int):=by omega
 simp[Instr.indexAt,asIntOf,underlying,hu,kG hte,Addr.add_mk,hm]
theorem fq {P:Program}{T e l:TypeId}{ti te:iQ}(ht:eD P T ti)(hk:ti.kd=.array l e)(hte:eD P e te)(b off m:Nat)(k:IntKind)(hm:m<l)(w:World):(Instr.indexAt T (.pointer (some ⟨b,off,none⟩)) (.int k (m:Int))).run P w=.ok (.pointer (some ⟨b,off+m*te.size,none⟩)) w:=by have hu:=lm ht hk;simp[Instr.indexAt,asIntOf,underlying,hu,kG hte,Addr.add_mk,hm,Instr.sureAddr]
theorem Rd.slget {w:World}{X:Nat→Prop}{sz:Nat}{xs:List D}{v:Value}(h:Rd w X (.sl sz xs) v){m:Nat}{x:D}(hx:xs[m]?=some x):∃blk off cap arr T fz,∃f:Nat→Value,v=.slice (some ⟨blk,off,none⟩) xs.length cap∧w.heap[blk]?=some (.cells arr T fz)∧¬X blk∧(∀(j:Nat)(c:D),x.cells[j]?=some c→arr[off+m*sz+j]?=some (f j))∧∀(j:Nat)(c:D),x.cells[j]?=some c→Rd w X c (f j):=by cases h with|slnil=>simp at hx;|sle=>simp at hx;|sl _ _ blk off l cap arr T fz f hh hX hl _ _ h1 h2=>exact⟨blk,off,cap,arr,T,fz,f m,by rw[hl],hh,hX,fun j c hc=>h1 m j x c hx hc,fun j c hc=>h2 m j x c hx hc⟩
theorem DW {T:TypeId}{x ix:Operand}(ho:o.op=.indexAddr T x ix)(h:fF st x fun a=>fF st ix fun i=>Af C st T a i fun r rd=>K r [] rd):∃out upd rd,K out upd rd∧cr C n o nm st rd out upd:=by
 replace h:=bx h;obtain⟨va,h1,h⟩:=h;replace h:=bx h;obtain⟨vi,h2,h⟩:=h;have hm1:x∈o.op.operands:=by rw[ho];simp[Op.operands]
 have hm2:ix∈o.op.operands:=by rw[ho];simp[Op.operands]
 unfold Af at h;replace h:=aJ h;obtain⟨ti,hti,h⟩:=h;unfold nC at h;split at h
 ·rename_i ki j;split at h
  ·rename_i e sz xs hk;replace h:=aJ h;obtain⟨te,hte,h⟩:=h;split at h;·rename_i hsz;have hsz:=Nd hsz;obtain⟨m,y,rfl,hy,h⟩:=h;refine⟨_,_,_,h,cr.pure fun X0 F w0 p α S a w hs he _=>?_⟩;have hi:=((h2.to hm2 he).read hs).dinv.iinv;obtain⟨blk,off,cap,arr,U,fz,f,hv,hh,hX,h3,h4⟩:=((h1.to hm1 he).read hs).dinv.slget hy;have hlt:m<xs.length:=(Nc.1 hy).1;refine⟨_,by simp[execOp,ho,hv,hi,io (C.ty hti) hk (C.ty hte) blk off xs.length cap m ki hlt];rfl,?_,.pp _ _⟩;rw[hsz];exact .pp y 0 blk (off+m*sz) arr U fz f hh hX h3 h4
   ·cases h
  ·rename_i e k hk;replace h:=aJ h;obtain⟨te,hte,h⟩:=h;replace h:=cQ h;obtain⟨en,hen,h⟩:=h;split at h
   ·rename_i sz xs T0;split at h
    ·rename_i hsz;have hsz:=Nd hsz;obtain⟨m,rfl,hm,h⟩:=h;refine⟨_,_,_,h,cr.pure fun X0 F w0 p α S a w hs he ho'=>?_⟩;have hi:=((h2.to hm2 he).read hs).dinv.iinv;have hx:=h1.to hm1 he;have hr:=hx.read hs;generalize hv:a.eval x=v at hr;cases hr;rcases hs.own k _ (ho' k (by simp) _ hen) with⟨_,⟨sz',_,he'⟩,_⟩|⟨_,arr,U,fz,cap,hB⟩;·cases he';simp at hm
     ·have hhv:=hB.hv sz xs _ rfl;rw[hhv] at hv;refine⟨_,by simp[execOp,ho,hv,hi,io (C.ty hti) hk (C.ty hte) (α k).blk (α k).off xs.length cap m ki hm];rfl,?_,?_⟩;·have hz:=hB.hsz;simp only[aS.sz] at hz;rw[hsz,←hz];exact .op k m 0
      ·have:=hx.ok hs;cases this with|os _ hk=>exact .op _ _ _ hk
    ·cases h
   ·cases h
  ·rename_i l e k hk;replace h:=aJ h;obtain⟨te,hte,h⟩:=h;replace h:=cQ h;obtain⟨en,hen,h⟩:=h;split at h
   ·rename_i sz xs;split at h
    ·rename_i hsz;have hsz:=Nd hsz;obtain⟨hl,m,rfl,hm,h⟩:=h;refine⟨_,_,_,h,cr.pure fun X0 F w0 p α S a w hs he ho'=>?_⟩;have hi:=((h2.to hm2 he).read hs).dinv.iinv;have hx:=h1.to hm1 he;have hr:=hx.read hs;generalize hv:a.eval x=v at hr;cases hr;rcases hs.own k _ (ho' k (by simp) _ hen) with⟨_,⟨sz',_,he'⟩,_⟩|⟨_,arr,U,fz,cap,hB⟩;·cases he'
     ·refine⟨_,by simp[execOp,ho,hv,hi,fq (C.ty hti) hk (C.ty hte) (α k).blk _ m ki (by omega)];rfl,?_,?_⟩;·have hz:=hB.hsz;simp only[aS.sz] at hz;rw[hsz,←hz];have:=co.op (w:=w) (α:=α) (X:=XX α S.own X0) k m 0;simpa using this
      ·have:=hx.ok hs;cases this with|op _ _ _ hk=>exact .op _ _ _ hk
    ·cases h
   ·split at h
    ·rename_i hsz;have hsz:=Nd hsz;obtain⟨m,rfl,hm,h⟩:=h;refine⟨_,_,_,h,cr.pure fun X0 F w0 p α S a w hs he ho'=>?_⟩;have hi:=((h2.to hm2 he).read hs).dinv.iinv;have hx:=h1.to hm1 he;have hr:=hx.read hs;generalize hv:a.eval x=v at hr;cases hr;refine⟨_,by simp[execOp,ho,hv,hi,fq (C.ty hti) hk (C.ty hte) (α k).blk _ m ki hm];rfl,?_,?_⟩;·have:=co.op (w:=w) (α:=α) (X:=XX α S.own X0) k 0 m;simpa[hsz] using this
     ·have:=hx.ok hs;cases this with|op _ _ _ hk=>exact .op _ _ _ hk
    ·cases h
   ·cases h
  ·rename_i l e g hk;replace h:=aJ h;obtain⟨te,hte,h⟩:=h;replace h:=Bw h;obtain⟨gl,hgl,rfl,h⟩:=h;split at h
   ·rename_i hsz hl;have hsz:=Nd hsz;have hl:=Nd hl;obtain⟨m,y,rfl,hy,h⟩:=h;refine⟨_,_,_,h,cr.pure fun X0 F w0 p α S a w hs he _=>?_⟩;have hi:=((h2.to hm2 he).read hs).dinv.iinv;have hr:=(h1.to hm1 he).read hs;generalize hv:a.eval x=v at hr;cases hr;have hlt:m<gl.xs.length:=(Nc.1 hy).1;obtain⟨arr,U,fz,hh,hX,_,_,h4⟩:=xz hs hgl;refine⟨_,by simp[execOp,ho,hv,hi,fq (C.ty hti) hk (C.ty hte) gl.g 0 m ki (by omega)];rfl,?_,.pp _ _⟩;rw[hsz];have hval:∀(j:Nat)(c:D),y.cells[j]?=some c→arr[m*gl.sz+j]?=some (arr.getD (m*gl.sz+j) undef)∧Rd w (XX α S.own X0) c (arr.getD (m*gl.sz+j) undef):=by intro j c hc;obtain⟨v,hv,hr⟩:=h4 m j y c hy hc;simp[Array.getD_eq_getD_getElem?,hv,hr]
    have:=co.pp (α:=α) y 0 gl.g (m*gl.sz) arr U fz (fun j=>arr.getD (m*gl.sz+j) undef) hh hX (fun j c hc=>(hval j c hc).1) fun j c hc=>(hval j c hc).2;simpa using this
   ·cases h
  ·cases h
 ·cases h
structure AtK {β:Type}(xs:List β)(i:Nat)(K:β→Prop):Prop where out:∃x,xs[i]?=some x∧K x
theorem az {β:Type}{xs:List β}{i:Nat}{K:β→Prop}{x:β}(h:xs[i]?=some x)(h1:K x):AtK xs i K:=⟨x,h,h1⟩
structure Ff (xs:List D)(n:Nat)(K:List D→Prop):Prop where out:∃ds,xs.flatMap D.cells=ds∧ds.length=n∧K ds
theorem nV {k:IntKind}:∀l:List Int,(l.map (D.i k)).flatMap D.cells=l.map (D.i k)|[]=>rfl|x::r=>by rw[Nw,List.flatMap_cons,nV r];rfl
theorem mI {k:IntKind}{l:List Int}{n:Nat}{K:List D→Prop}(hl:l.length=n)(h1:K (l.map (.i k))):Ff (l.map (.i k)) n K:=⟨_,nV l,by simpa using hl,h1⟩
theorem qY {sz:Nat}:∀{xs:List D},(∀x,x∈xs→x.cells.length=sz)→∀{q:Nat}{c:D},(xs.flatMap D.cells)[q]?=some c→∃j m x,q=j*sz+m∧xs[j]?=some x∧x.cells[m]?=some c
 |[],_,q,c,h=>by simp at h;|y::r,hall,q,c,h=>by
  have hy:=hall y (by simp);rw[List.flatMap_cons] at h;by_cases hq:q<y.cells.length;·rw[List.getElem?_append_left hq] at h;exact⟨0,q,y,by omega,rfl,h⟩
  ·rw[List.getElem?_append_right (by omega)] at h;obtain⟨j,m,x,e,h1,h2⟩:=qY (fun x hx=>hall x (Nv _ hx)) h;refine⟨j+1,m,x,?_,by simpa using h1,h2⟩;rw[Nat.succ_mul];omega
def tO (C:cq)(st:AS)(T:TypeId)(a:AV)(K:AV→List Nat→Prop):Prop:=aW C.tab T fun ti=>match a with
 |.pp x j=>wb x j ti fun r=>K r []|.gp g=>glK C g fun gl=>match ti.agg with
  |false=>(match gl.xs,gl.sz with|[d],1=>nE d.cells 0 fun c=>K (.d c) []|_,_=>False)|true=>(match Nat.beq ti.size (gl.xs.length*gl.sz) with|true=>K (.d (.agg (gl.xs.flatMap D.cells))) []|false=>False)
 |.op k i j=>iH st k fun en=>match en with
  |.box cs _=>match i with
   |0=>match ti.agg with
    |true=>iX cs j ti.size fun r=>kN r fun v=>K v [k]|false=>nE cs j fun c=>K c [k]
   |_=>False
  |.buf _ xs _=>AtK xs i fun x=>wb x j ti fun r=>K r [k]|.arr _ xs=>match ti.kd with
   |.array _ _=>match i,j with|0,0=>Ff xs ti.size fun ds=>K (.d (.agg ds)) [k]|_,_=>False
   |_=>AtK xs i fun x=>wb x j ti fun r=>K r [k]
  |_=>False
 |_=>False
theorem kM {e:aS}{xs:List D}(he:e.cell=fun i j=>(xs[i]?).bind fun x=>(x.cells[j]?).map .d){i:Nat}{x:D}(hx:xs[i]?=some x){m:Nat}{c:D}(hc:x.cells[m]?=some c):e.cell i m=some (.d c):=by rw[he];simp[hx,hc]
theorem sW {P:Program}{T:TypeId}{ti:iQ}(ht:eD P T ti){w:World}{α:Nat→dh}{X:Nat→Prop}{l:dh}{e:aS}{arr:Array Value}{U:TypeId}{fz:Nat×Nat}{cap:Nat}(hB:J4 w α X l e arr U fz cap){xs:List D}(he:e.cell=fun i j=>(xs[i]?).bind fun x=>(x.cells[j]?).map .d){i j:Nat}{x d:D}(hx:xs[i]?=some x)(hd:(ti.agg=true∧∃r,d=.agg r∧r.length=ti.size∧∀m c,r[m]?=some c→x.cells[j+m]?=some c)∨(ti.agg=false∧x.cells[j]?=some d)):∃v,(loadVar T ⟨l.blk,l.off+i*l.sz+j,none⟩).run P w=.ok v w∧Rd w X d v:=by
 have hval:∀(m:Nat)(c:D),x.cells[m]?=some c→w.cell? ⟨l.blk,l.off+i*l.sz+m,none⟩=some (arr.getD (l.off+i*l.sz+m) undef)∧Rd w X c (arr.getD (l.off+i*l.sz+m) undef):=by intro m c hc;obtain⟨v,hv,hr⟩:=hB.rd i m _ (kM he hx hc);rw[←hB.hsz] at hv;rw[eP hB.heap];simp[Array.getD_eq_getD_getElem?,hv,hr.dinv]
 exact lJ ht hd (fun m c hc=>(hval m c hc).1) fun m c hc=>(hval m c hc).2
theorem ny {T:TypeId}{va:AV}{K:AV→List Nat→Prop}(h:tO C st T va K):∃out rd,K out rd∧∀{X0 F w0}{p:Nat→Prop}{α S a w v0},dn C.G X0 F w0 n p α S a w→(∀k,k∈rd→∀e,st.ss.own k=some e→S.own k=some e)→co w α (XX α S.own X0) va v0→∃v,(∃b,v0=.pointer (some b)∧(loadVar T b).run C.P w=.ok v w)∧co w α (XX α S.own X0) out v∧out.ok p:=by
 unfold tO at h;replace h:=aJ h;obtain⟨ti,hti,h⟩:=h;split at h;·rename_i y j;replace h:=nH h;obtain⟨d,h,hd⟩:=h;refine⟨_,_,h,fun{X0 F w0 p α S a w v0} hs ho' hr=>?_⟩;cases hr with|pp _ _ blk off arr U fz f hh hX h3 h4=>obtain⟨v,h5,h6⟩:=lJ (C.ty hti) hd (fun m c hc=>by rw[eP hh];exact h3 m c hc) h4;exact⟨v,⟨_,rfl,h5⟩,.d _ _ h6,.d _⟩
 ·rename_i g;replace h:=Bw h;obtain⟨gl,hgl,rfl,h⟩:=h;split at h
  ·rename_i hagg;split at h;·rename_i d hxs hsz;replace h:=fD h;obtain⟨c,hc,h⟩:=h;refine⟨_,_,h,fun{X0 F w0 p α S a w v0} hs ho' hr=>?_⟩;cases hr;obtain⟨arr,U,fz,hh,hX,_,hw,h4⟩:=xz hs hgl;obtain⟨v,hv',hr⟩:=h4 0 0 d c (by rw[hxs];rfl) hc;exact⟨v,⟨_,rfl,gv (C.ty hti) hagg w _ _ (by rw[eP hh];simpa using hv')⟩,.d _ _ hr,.d _⟩
   ·cases h
  ·rename_i hagg;split at h
   ·rename_i hsz;have hsz:=Nd hsz;refine⟨_,_,h,fun{X0 F w0 p α S a w v0} hs ho' hr=>?_⟩;cases hr;obtain⟨arr,U,fz,hh,hX,hz,hw,h4⟩:=xz hs hgl;have hlen:∀(l:List D),(∀x,x∈l→x.cells.length=gl.sz)→(l.flatMap D.cells).length=l.length*gl.sz:=by intro l;induction l with|nil=>simp;|cons y r ih=>intro hall;rw[List.flatMap_cons,Na,hall y (by simp),ih fun x hx=>hall x (Nv _ hx),Nb,Nat.succ_mul];omega
    have hall:∀x,x∈gl.xs→x.cells.length=gl.sz:=by intro x hx;obtain⟨j,hj⟩:=List.mem_iff_getElem?.1 hx;exact(hw j x hj).1
    have hget:∀q,q<ti.size→∃v,arr[q]?=some v∧∀c,(gl.xs.flatMap D.cells)[q]?=some c→Rd w (XX α S.own X0) c v:=by
     intro q hq;rw[hsz] at hq;have hpos:0<gl.sz:=by
      rcases Nat.eq_zero_or_pos gl.sz with h0|h0;·rw[h0] at hq;simp at hq
      ·exact h0
     have hj:q/gl.sz<gl.xs.length:=Nat.div_lt_of_lt_mul (by rw[Nat.mul_comm];exact hq);have hm:=Nat.mod_lt q hpos;have hqe:q/gl.sz*gl.sz+q%gl.sz=q:=by rw[Nat.mul_comm];exact Nat.div_add_mod q gl.sz
     have hx:gl.xs[q/gl.sz]?=some gl.xs[q/gl.sz]:=No hj;have hfg:=qK hall _ _ _ hx hm;rw[hqe] at hfg;have hcl:=hall _ (Nr hj);obtain⟨v,hv,hr⟩:=h4 (q/gl.sz) (q%gl.sz) _ ((gl.xs[q/gl.sz]).cells[q%gl.sz]'(by omega)) hx (No (by omega));rw[hqe] at hv;refine⟨v,hv,fun c hc=>?_⟩;rw[hfg,No (by omega)] at hc;cases hc;exact hr
    refine⟨_,⟨_,rfl,eQ (C.ty hti) hagg w gl.g 0 (fun j=>arr.getD j undef) fun j hj=>?_⟩,.d _ _ (.agg _ _ ?_ fun j c v h1 h2=>?_),.d _⟩;·obtain⟨v,hv,_⟩:=hget j hj;rw[eP hh,Nat.zero_add];simp[Array.getD_eq_getD_getElem?,hv]
    ·rw[hlen _ hall];simp[hsz]
    ·have h3:j<ti.size:=by have:=(Array.getElem?_eq_some_iff.1 h2).1;simpa using this
     obtain⟨u,hv,hr⟩:=hget j h3;have h4:v=u:=by simp[h3] at h2;rw[←h2];simp[hv]
     rw[h4];exact hr c h1
   ·cases h
 ·rename_i k i j;replace h:=cQ h;obtain⟨en,hen,h⟩:=h;split at h
  ·rename_i cs;split at h
   ·split at h
    ·rename_i hagg;replace h:=ll h;obtain⟨r,hr1,hr2,h⟩:=h;replace h:=lM h;obtain⟨av,h,hok,hrd⟩:=h;refine⟨_,_,h,fun{X0 F w0 p α S a w v0} hs ho' hr=>?_⟩;have hso:=ho' k (by simp) _ hen;cases hr;rcases hs.own k _ hso with⟨_,⟨sz',_,he'⟩,_⟩|⟨_,arr,U,fz,cap,hB⟩;·cases he'
     ·have hval:∀(m:Nat)(c:AV),r[m]?=some c→w.cell? ⟨(α k).blk,(α k).off+0*(α k).sz+j+m,none⟩=some (arr.getD ((α k).off+0*(α k).sz+j+m) undef)∧co w α (XX α S.own X0) c (arr.getD ((α k).off+0*(α k).sz+j+m) undef):=by intro m c hc;obtain⟨v,hv,hr⟩:=hB.rd 0 (j+m) c (by simp[aS.cell,hr2 m c hc]);rw[eP hB.heap];rw[←hB.hsz,←Nat.add_assoc] at hv;simp only[Array.getD_eq_getD_getElem?,hv];exact⟨rfl,hr⟩
      refine⟨_,⟨_,rfl,eQ (C.ty hti) hagg w _ _ _ fun m hm=>(hval m (r[m]'(by omega)) (by simp[hr1,hm])).1⟩,?_,hok _ fun c hc=>?_⟩
      ·refine hrd w α _ _ (by simp[hr1]) fun m c v hm hv'=>?_;have hlt:m<ti.size:=by have:=(Nc.1 hm).1;omega
       simp[hlt] at hv';subst hv';have:=(hval m c hm).2;simpa[Array.getD_eq_getD_getElem?] using this
      ·obtain⟨m,hm⟩:=List.mem_iff_getElem?.1 hc;exact(hs.oko k _ hso).2 c (Ni (hr2 m c hm))
    ·rename_i hagg;replace h:=fD h;obtain⟨c,hc,h⟩:=h;refine⟨_,_,h,fun{X0 F w0 p α S a w v0} hs ho' hr=>?_⟩;have hso:=ho' k (by simp) _ hen;cases hr;rcases hs.own k _ hso with⟨_,⟨sz',_,he'⟩,_⟩|⟨_,arr,U,fz,cap,hB⟩;·cases he'
     ·obtain⟨v,hv',hr⟩:=hB.rd 0 j c (by simp[aS.cell,hc]);rw[←hB.hsz] at hv';exact⟨v,⟨_,rfl,gv (C.ty hti) hagg w _ _ (by rw[eP hB.heap];exact hv')⟩,hr,(hs.oko k _ hso).2 c (Ni hc)⟩
   ·cases h
  ·rename_i sz xs T0;obtain⟨y,hy,h⟩:=h;replace h:=nH h;obtain⟨d,h,hd⟩:=h;refine⟨_,_,h,fun{X0 F w0 p α S a w v0} hs ho' hr=>?_⟩;cases hr;rcases hs.own k _ (ho' k (by simp) _ hen) with⟨_,⟨sz',_,he'⟩,_⟩|⟨_,arr,U,fz,cap,hB⟩;·cases he';simp at hy
   ·obtain⟨v,h5,h6⟩:=sW (C.ty hti) hB rfl hy hd;exact⟨v,⟨_,rfl,h5⟩,.d _ _ h6,.d _⟩
  ·rename_i sz xs;split at h
   ·rename_i m e hk;split at h
    ·obtain⟨ds,hfl,hln,h⟩:=h;refine⟨_,_,h,fun{X0 F w0 p α S a w v0} hs ho' hr=>?_⟩;cases hr;rcases hs.own k _ (ho' k (by simp) _ hen) with⟨_,⟨sz',_,he'⟩,_⟩|⟨_,arr,U,fz,cap,hB⟩;·cases he'
     ·have hagg:ti.agg=true:=by obtain⟨_,u,_,ha,hc⟩:=C.ty hti;rw[hk] at hc;cases u<;>simp[j6] at hc;rw[←ha];rfl
      have hall:∀x,x∈xs→x.cells.length=sz:=fun x hx=>by obtain⟨j,hj⟩:=List.mem_iff_getElem?.1 hx;exact(hB.wid j x hj).1
      have hval:∀q (hq:q<ti.size),∃v,w.cell? ⟨(α k).blk,(α k).off+0*(α k).sz+0+q,none⟩=some v∧Rd w (XX α S.own X0) (ds[q]'(by omega)) v:=fun q hq=>by
       have h9:(xs.flatMap D.cells)[q]?=some (ds[q]'(by omega)):=by rw[hfl];exact No (by omega)
       obtain⟨j,m,x,rfl,hx,hc⟩:=qY hall h9;obtain⟨v,hv,hrd⟩:=hB.rd j m _ (kM (e:=.arr sz xs) rfl hx hc);refine⟨v,?_,hrd.dinv⟩;rw[eP hB.heap,Nat.zero_mul,Nat.add_zero,←Nat.add_assoc];exact hv
      obtain⟨g,hg⟩:∃g:Nat→Value,∀q (hq:q<ti.size),w.cell? ⟨(α k).blk,(α k).off+0*(α k).sz+0+q,none⟩=some (g q)∧Rd w (XX α S.own X0) (ds[q]'(by omega)) (g q):=⟨fun q=>if h:q<ti.size then(hval q h).choose else undef,fun q hq=>by dsimp only;rw[dif_pos hq];exact(hval q hq).choose_spec⟩;refine⟨_,⟨_,rfl,eQ (C.ty hti) hagg w (α k).blk ((α k).off+0*(α k).sz+0) g fun q hq=>(hg q hq).1⟩,.d _ _ (.agg _ _ (by simp[hln]) fun q c v h1 h2=>?_),.d _⟩;have hq:q<ti.size:=by have:=(Nc.1 h1).1;omega
      have h4:=(hg q hq).2;have h5:ds[q]'(by omega)=c:=(Nc.1 h1).2;simp[hq] at h2;rw[h2,h5] at h4;exact h4
    ·cases h
   ·obtain⟨y,hy,h⟩:=h;replace h:=nH h;obtain⟨d,h,hd⟩:=h;refine⟨_,_,h,fun{X0 F w0 p α S a w v0} hs ho' hr=>?_⟩;cases hr;rcases hs.own k _ (ho' k (by simp) _ hen) with⟨_,⟨sz',_,he'⟩,_⟩|⟨_,arr,U,fz,cap,hB⟩;·cases he'
    ·obtain⟨v,h5,h6⟩:=sW (C.ty hti) hB rfl hy hd;exact⟨v,⟨_,rfl,h5⟩,.d _ _ h6,.d _⟩
  ·cases h
 ·cases h
theorem EP {T:TypeId}{x:Operand}(ho:o.op=.load T x)(h:fF st x fun a=>tO C st T a fun r rd=>K r [] rd):∃out upd rd,K out upd rd∧cr C n o nm st rd out upd:=by
 replace h:=bx h;obtain⟨va,h1,h⟩:=h;have hmem:x∈o.op.operands:=by rw[ho];simp[Op.operands]
 obtain⟨out,rd,hk,hrun⟩:=ny (n:=n) h;refine⟨_,_,_,hk,cr.pure fun X0 F w0 p α S a w hs he ho'=>?_⟩;obtain⟨v,⟨b,hb,hl⟩,hr,hok⟩:=hrun hs ho' ((h1.to hmem he).read hs);exact⟨v,by simp[execOp,ho,hb,Instr.loadAt,Instr.sureAddr,hl],hr,hok⟩
end
end Go.Eng
namespace Go.Eng
theorem cI (nm c:Nat)(h:c<16):oo nm (16*nm+c):=by unfold oo;omega
def bK (α:Nat→dh)(k:Nat)(l:dh):Nat→dh:=fun j=>if j=k then l else α j
theorem dy {β:Type}(kills:List Nat)(k:Nat):look (kills.map fun k=>(k,(none:Option β))) k=none∨(look (kills.map fun k=>(k,(none:Option β))) k=some none∧k∈kills):=by induction kills with|nil=>exact .inl rfl;|cons x l ih=>
 simp only[Nw,look];split;·rename_i hb;exact .inr ⟨rfl,by rw[Nd hb];exact List.mem_cons_self⟩
 ·rcases ih with h|⟨h,hm⟩;·exact .inl h
  ·exact .inr ⟨h,Nv _ hm⟩
structure Ec (w w':World)(α:Nat→dh)(X:Nat→Prop)(p:Nat→Prop)(e:aS)(hv:Value)(arr:Array Value)(T:TypeId)(fz:Nat×Nat)(cap:Nat):Prop where
 heap:w'.heap=w.heap.push (.cells arr T fz)os:w'.os=w.os
 tape:w'.tape=w.tape
 output:w'.output=w.output
 len:e.len≤cap
 bnd:cap*e.sz≤arr.size
 nf:fz.1≤fz.2∧∀o,o<cap*e.sz→¬(fz.1≤o∧o<fz.2)wid:e.wide
 rd:∀(j m:Nat)(c:AV),e.cell j m=some c→∃u,arr[j*e.sz+m]?=some u∧co w α X c u
 vars:∀x,x∈e.vars→x.ok p
 hvb:∀sz xs T,e=.buf sz xs T→hv=.slice (some ⟨w.heap.size,0,none⟩) xs.length cap
 hone:hv.oneCell'=true
 ty:∀U,e.ty=some U→T=U∧∀cs V,e=.box cs V→arr.size=cs.length
def gF (nm:Nat)(e:aS)(kills:List Nat):List (Nat×Option aS):=(16*nm,some e)::kills.map fun k=>(k,none)
theorem gz {nm:Nat}{e:aS}{kills:List Nat}:∀k oe,look (gF nm e kills) k=some oe→(k=16*nm∧oe=some e)∨(k∈kills∧oe=none):=by
 unfold gF;intro k oe hl;simp only[look] at hl;split at hl;·rename_i hb;exact .inl ⟨Nd hb,by cases hl;rfl⟩
 ·rcases dy (β:=aS) kills k with h|⟨h,hm⟩;·rw[h] at hl;cases hl
  ·rw[h] at hl;cases hl;exact .inr ⟨hm,rfl⟩
theorem dn.make {G:List Gl}{X0:Nat→Prop}{F:Fr}{w0:World}{n nm:Nat}{p:Nat→Prop}{α:Nat→dh}{S:SS}{a:Act}{w w':World}{e:aS}{hv:Value}{arr:Array Value}{T:TypeId}{fz:Nat×Nat}{cap:Nat}(hs:dn G X0 F w0 n p α S a w)(hp:∀k,oo nm k→¬p k)(hM:Ec w w' α (XX α S.own X0) p e hv arr T fz cap)(kills:List Nat)(dst:Option Nat)(hd:∀d,dst=some d→d<n)(out:AV)(hout:out=.os (16*nm)∨out=.op (16*nm) 0 0):∃α',dn G X0 F w0 n (fun k=>p k∨oo nm k) α' (S.upd dst out (gF nm e kills)) (a.put dst (match out with|.os _=>hv|_=>.pointer (some ⟨w.heap.size,0,none⟩))) w':=by
 have hlk:=gz (nm:=nm) (e:=e) (kills:=kills);have hpn:¬p (16*nm):=hp _ (cI nm 0 (by omega));let L:dh:=⟨w.heap.size,0,e.sz,false,hv⟩;have hLk:bK α (16*nm) L (16*nm)=L:=by simp[bK]
 have hα:∀k,p k→bK α (16*nm) L k=α k:=by intro k hk;have:k≠16*nm:=fun h=>hpn (h▸hk);simp[bK,this]
 refine⟨bK α (16*nm) L,hs.upd _ (fun k hk=>.inl hk) _ w' dst hd out _ _ hα (by rw[hM.heap];simp) hM.os hM.tape hM.output ?_ ?_ ?_ ?_ ?_ ?_ ?_⟩;·intro b hb _;rw[hM.heap,Array.getElem?_push_lt hb];simp[hb]
 ·intro k e' hl;rcases hlk k _ hl with⟨rfl,_⟩|⟨_,h⟩;·exact .inr (cI nm 0 (by omega))
  ·cases h
 ·intro k e' hl hnil;rcases hlk k _ hl with⟨rfl,h⟩|⟨_,h⟩;·rw[hLk];exact .inl (Nat.le_refl _)
  ·cases h
 ·intro k e1 k' e2 hl hl' _ _ _;rcases hlk k _ hl with⟨rfl,_⟩|⟨_,h⟩<;>rcases hlk k' _ hl' with⟨rfl,_⟩|⟨_,h'⟩;·rfl
  ·cases h'
  ·cases h
  ·cases h
 ·intro hw k e' hl;rcases hlk k _ hl with⟨rfl,h⟩|⟨_,h⟩
  ·cases h;refine⟨lj.ofC (.inr ⟨by rw[hLk],arr,T,fz,cap,?_⟩),fun x hx=>(hM.vars x hx).mono fun k hk=>.inl hk⟩;rw[hLk];refine⟨?_,rfl,hM.len,?_,⟨hM.nf.1,fun o _ h2=>hM.nf.2 o (by simpa[L] using h2)⟩,hM.wid,fun j m c hc=>?_,fun sz xs T h=>hM.hvb sz xs T h,hM.hone,fun U h=>⟨(hM.ty U h).1,rfl,(hM.ty U h).2⟩⟩;·rw[hM.heap];simp[L]
   ·have:=hM.bnd;simpa[L] using this
   ·obtain⟨u,h1,h2⟩:=hM.rd j m c hc;exact⟨u,by simpa[L] using h1,h2.mono hw hα (aS.cell_ok hM.vars hc)⟩
  ·cases h
 ·intro hw;rcases hout with rfl|rfl;·have:=co.os (w:=w') (α:=bK α (16*nm) L) (X:=XX (bK α (16*nm) L) (S.upd dst (.os (16*nm)) (gF nm e kills)).own X0) (16*nm) (by rw[hLk];exact hM.hone);rw[hLk] at this;exact this
  ·have:=co.op (w:=w') (α:=bK α (16*nm) L) (X:=XX (bK α (16*nm) L) (S.upd dst (.op (16*nm) 0 0) (gF nm e kills)).own X0) (16*nm) 0 0;rw[hLk] at this;simpa[L] using this
 ·rcases hout with rfl|rfl;·exact .os _ (.inr (cI nm 0 (by omega)))
  ·exact .op _ _ _ (.inr (cI nm 0 (by omega)))
theorem cr.make {C:cq}{n:Nat}{o:Oper}{nm:Nat}{st:AS}{rd kills:List Nat}{out:AV}{e:aS}(hkr:∀k,k∈kills→k∈rd)(hout:out=.os (16*nm)∨out=.op (16*nm) 0 0)(H:∀(X0:Nat→Prop)(F:Fr)(w0:World)(p:Nat→Prop)(α:Nat→dh)(S:SS)(a:Act)(w:World),dn C.G X0 F w0 n p α S a w→(∀t,Operand.tmp t∈o.op.operands→∀av,st.ss.env t=some av→S.env t=some av)→(∀k,k∈rd→∀e,st.ss.own k=some e→S.own k=some e)→∃w' hv arr T fz cap,Ec w w' α (XX α S.own X0) p e hv arr T fz cap∧(execOp a.eval o).run C.P w=.ok (.value (match out with|.os _=>hv|_=>.pointer (some ⟨w.heap.size,0,none⟩))) w'):cr C n o nm st rd out (gF nm e kills):=by
 have hlk:=gz (nm:=nm) (e:=e) (kills:=kills);refine⟨fun k oe hl=>?_,fun X0 F w0 p α S a w Q next hs he ho hp hd hn=>?_⟩
 ·rcases hlk k oe hl with⟨rfl,_⟩|⟨hk,_⟩;·exact .inr (cI nm 0 (by omega))
  ·exact .inl (hkr k hk)
 obtain⟨w',hv,arr,T,fz,cap,hM,hrun⟩:=H X0 F w0 p α S a w hs he ho;obtain⟨α',h⟩:=hs.make hp hM kills o.dst hd out hout;exact em hrun (hn α' _ w' h)
theorem dn.nilrow {G:List Gl}{X0:Nat→Prop}{F:Fr}{w0:World}{n nm:Nat}{p:Nat→Prop}{α:Nat→dh}{S:SS}{a:Act}{w:World}(hs:dn G X0 F w0 n p α S a w)(hp:∀k,oo nm k→¬p k)(sz:Nat)(T0:Option TypeId)(kills:List Nat)(dst:Option Nat)(hd:∀d,dst=some d→d<n):∃α',dn G X0 F w0 n (fun k=>p k∨oo nm k) α' (S.upd dst (.os (16*nm)) (gF nm (.buf sz [] T0) kills)) (a.put dst (.slice none 0 0)) w:=by
 have hlk:=gz (nm:=nm) (e:=aS.buf sz [] T0) (kills:=kills);let L:dh:=⟨0,0,sz,true,.slice none 0 0⟩;have hpn:¬p (16*nm):=hp _ (cI nm 0 (by omega));have hLk:bK α (16*nm) L (16*nm)=L:=by simp[bK]
 have hα:∀k,p k→bK α (16*nm) L k=α k:=by intro k hk;have:k≠16*nm:=fun h=>hpn (h▸hk);simp[bK,this]
 refine⟨bK α (16*nm) L,hs.upd _ (fun k hk=>.inl hk) _ w dst hd (.os (16*nm)) _ _ hα (Nat.le_refl _) rfl rfl rfl (fun _ _ _=>rfl) ?_ ?_ ?_ ?_ ?_ (.os _ (.inr (cI nm 0 (by omega))))⟩
 ·intro k e hl;rcases hlk k _ hl with⟨rfl,_⟩|⟨_,h⟩;·exact .inr (cI nm 0 (by omega))
  ·cases h
 ·intro k e hl hnil;rcases hlk k _ hl with⟨rfl,_⟩|⟨_,h⟩;·rw[hLk] at hnil;cases hnil
  ·cases h
 ·intro k e k' e' hl hl' _ _ _;rcases hlk k _ hl with⟨rfl,_⟩|⟨_,h⟩<;>rcases hlk k' _ hl' with⟨rfl,_⟩|⟨_,h'⟩;·rfl
  ·cases h'
  ·cases h
  ·cases h
 ·intro _ k e hl;rcases hlk k _ hl with⟨rfl,h2⟩|⟨_,h⟩;·cases h2;refine⟨.inl ?_,fun x hx=>by cases hx⟩;rw[hLk];exact⟨rfl,⟨sz,_,rfl⟩,rfl⟩
  ·cases h
 ·intro _;have:=co.os (w:=w) (α:=bK α (16*nm) L) (X:=XX (bK α (16*nm) L) (S.upd dst (.os (16*nm)) (gF nm (.buf sz [] T0) kills)).own X0) (16*nm) (by rw[hLk];rfl);rw[hLk] at this;exact this
structure qc (w w':World)(α:Nat→dh)(X:Nat→Prop)(p:Nat→Prop)(l:dh)(e:aS)(hv:Value)(arr:Array Value)(T:TypeId)(fz:Nat×Nat)(cap:Nat):Prop where
 heap:w'.heap[l.blk]?=some (.cells arr T fz)other:∀b,b≠l.blk→w'.heap[b]?=w.heap[b]?
 size:w'.heap.size=w.heap.size
 os:w'.os=w.os
 tape:w'.tape=w.tape
 output:w'.output=w.output
 hsz:l.sz=e.sz
 len:e.len≤cap
 bnd:l.off+cap*e.sz≤arr.size
 nf:fz.1≤fz.2∧∀o,l.off≤o→o<l.off+cap*e.sz→¬(fz.1≤o∧o<fz.2)wid:e.wide
 rd:∀(j m:Nat)(c:AV),e.cell j m=some c→∃u,arr[l.off+j*e.sz+m]?=some u∧co w α X c u
 vars:∀x,x∈e.vars→x.ok p
 hvb:∀sz xs T,e=.buf sz xs T→hv=.slice (some ⟨l.blk,l.off,none⟩) xs.length cap
 hone:hv.oneCell'=true
 ty:∀U,e.ty=some U→T=U∧l.off=0∧∀cs V,e=.box cs V→arr.size=cs.length
def kJ (same:Bool)(k nm:Nat)(e:aS):List (Nat×Option aS):=match same with|true=>[(k,some e)]|false=>[(16*nm,some e),(k,none)]
def pR (same:Bool)(k nm:Nat):Nat:=match same with|true=>k|false=>16*nm
theorem pQ {same:Bool}{k nm:Nat}{e:aS}:(∀j oe,look (kJ same k nm e) j=some oe→(j=pR same k nm∧oe=some e)∨(same=false∧j=k∧oe=none))∧(look (kJ same k nm e) k).isSome=true:=by
 have hlk:∀j oe,look (kJ same k nm e) j=some oe→(j=(pR same k nm)∧oe=some e)∨(same=false∧j=k∧oe=none):=by
  intro j oe hl;cases same<;>simp only[look,kJ] at hl
  ·split at hl;·rename_i hb;exact .inl ⟨Nd hb,by cases hl;rfl⟩
   ·split at hl;·rename_i hb;exact .inr ⟨rfl,Nd hb,by cases hl;rfl⟩
    ·cases hl
  ·split at hl;·rename_i hb;exact .inl ⟨Nd hb,by cases hl;rfl⟩
   ·cases hl
 have hlk':(look (kJ same k nm e) k).isSome=true:=by cases same<;>simp[look,kJ];split<;>simp
 exact⟨hlk,hlk'⟩
theorem dn.write {G:List Gl}{X0:Nat→Prop}{F:Fr}{w0:World}{n nm:Nat}{p:Nat→Prop}{α:Nat→dh}{S:SS}{a:Act}{w w':World}{e0 e:aS}{k:Nat}{hv:Value}{arr:Array Value}{T:TypeId}{fz:Nat×Nat}{cap:Nat}(hs:dn G X0 F w0 n p α S a w)(hp:∀k,oo nm k→¬p k)(same:Bool)(hSk:S.own k=some e0)(hnil:(α k).nil=false)(hM:qc w w' α (XX α S.own X0) p (α k) e hv arr T fz cap)(hsm:same=true→hv=(α k).hv)(dst:Option Nat)(hd:∀d,dst=some d→d<n)(out:AV)(v:Value)(hout:out=.any∨(same=false∧out=.os (16*nm)))(hvv:out=.any∨v=hv):∃α',dn G X0 F w0 n (fun k=>p k∨oo nm k) α' (S.upd dst out (kJ same k nm e)) (a.put dst v) w':=by
 obtain⟨hlk,hlk'⟩:=pQ (same:=same) (k:=k) (nm:=nm) (e:=e);have hpk:p k:=(hs.oko k e0 hSk).1;have hpn:¬p (16*nm):=hp _ (cI nm 0 (by omega));let α':Nat→dh:=match same with|true=>α|false=>bK α (16*nm) {α k with hv:=hv};have hα:∀j,p j→α' j=α j:=by intro j hj;cases same with|true=>rfl;|false=>have:j≠16*nm:=fun h=>hpn (h▸hj);simp[α',bK,this]
 have hL:α' (pR same k nm)={α k with hv:=hv}:=by cases same with|true=>simp only[α',pR];rw[hsm rfl];|false=>simp[α',bK,pR]
 refine⟨α',hs.upd _ (fun k hk=>.inl hk) _ w' dst hd out _ _ hα (by rw[hM.size];exact Nat.le_refl _) hM.os hM.tape hM.output ?_ ?_ ?_ ?_ ?_ ?_ ?_⟩;·intro b _ hb;exact hM.other b fun h=>hb k e0 hSk hlk' hnil h.symm
 ·intro j e' hl;rcases hlk j _ hl with⟨rfl,_⟩|⟨_,_,h⟩
  ·cases same;·exact .inr (cI nm 0 (by omega))
   ·exact .inl hpk
  ·cases h
 ·intro j e' hl _;rcases hlk j _ hl with⟨rfl,_⟩|⟨_,_,h⟩;·exact .inr ⟨k,e0,hSk,hlk',hnil,by rw[hL]⟩
  ·cases h
 ·intro j e1 j' e2 hl hl' _ _ _;rcases hlk j _ hl with⟨rfl,_⟩|⟨_,_,h⟩<;>rcases hlk j' _ hl' with⟨rfl,_⟩|⟨_,_,h'⟩;·rfl
  ·cases h'
  ·cases h
  ·cases h
 ·intro hw j e' hl;rcases hlk j _ hl with⟨rfl,h⟩|⟨_,_,h⟩;·cases h;refine⟨lj.ofC (.inr ⟨by rw[hL];exact hnil,arr,T,fz,cap,?_⟩),fun x hx=>(hM.vars x hx).mono fun k hk=>.inl hk⟩;rw[hL];refine⟨hM.heap,hM.hsz,hM.len,hM.bnd,hM.nf,hM.wid,fun j m c hc=>?_,fun sz xs T h=>hM.hvb sz xs T h,hM.hone,hM.ty⟩;obtain⟨u,h1,h2⟩:=hM.rd j m c hc;exact⟨u,h1,h2.mono hw hα (aS.cell_ok hM.vars hc)⟩
  ·cases h
 ·intro hw;rcases hout with rfl|⟨hsf,rfl⟩;·exact .any v
  ·rcases hvv with h|rfl;·cases h
   ·subst hsf;have:=co.os (w:=w') (α:=α') (X:=XX α' (S.upd dst (.os (16*nm)) (kJ false k nm e)).own X0) (16*nm) (by rw[show α' (16*nm)={α k with hv:=v} from hL];exact hM.hone);have hL':α' (16*nm)={α k with hv:=v}:=hL;rw[hL'] at this;exact this
 ·rcases hout with rfl|⟨_,rfl⟩;·exact .any
  ·exact .os _ (.inr (cI nm 0 (by omega)))
theorem cr.write {C:cq}{n:Nat}{o:Oper}{nm:Nat}{st:AS}{rd:List Nat}{out:AV}{e0 e:aS}{k:Nat}(same:Bool)(hkr:k∈rd)(h0:st.ss.own k=some e0)(hout:out=.any∨(same=false∧out=.os (16*nm)))(H:∀(X0:Nat→Prop)(F:Fr)(w0:World)(p:Nat→Prop)(α:Nat→dh)(S:SS)(a:Act)(w:World),dn C.G X0 F w0 n p α S a w→(∀t,Operand.tmp t∈o.op.operands→∀av,st.ss.env t=some av→S.env t=some av)→(∀k,k∈rd→∀e,st.ss.own k=some e→S.own k=some e)→(α k).nil=false∧∃w' hv arr T fz cap,qc w w' α (XX α S.own X0) p (α k) e hv arr T fz cap∧(same=true→hv=(α k).hv)∧(∀next Q,(∀v,(out=.any∨v=hv)→next (a.put o.dst v) w')→o.wp C.P a w next Q)):cr C n o nm st rd out (kJ same k nm e):=by
 obtain⟨hlk,hlk'⟩:=pQ (same:=same) (k:=k) (nm:=nm) (e:=e);refine⟨fun j oe hl=>?_,fun X0 F w0 p α S a w Q next hs he ho hp hd hn=>?_⟩
 ·rcases hlk j oe hl with⟨rfl,_⟩|⟨_,rfl,_⟩
  ·cases same;·exact .inr (cI nm 0 (by omega))
   ·exact .inl hkr
  ·exact .inl hkr
 obtain⟨hnil,w',hv,arr,T,fz,cap,hM,hsm,hrun⟩:=H X0 F w0 p α S a w hs he ho;have hSk:S.own k=some e0:=ho k hkr e0 h0;refine hrun _ _ fun v hvv=>?_;obtain⟨α',h⟩:=hs.write hp same hSk hnil hM hsm o.dst hd out v hout hvv;exact hn α' v w' h
end Go.Eng
namespace Go.Eng
theorem Rd.one {w:World}{X:Nat→Prop}{x:D}{v:Value}(h:Rd w X x v)(ho:x.one=true):v.oneCell'=true:=by cases h<;>first|rfl|exact ho|(simp[D.one] at ho)
theorem co.one' {w:World}{α:Nat→dh}{X:Nat→Prop}{a:AV}{v:Value}(h:co w α X a v)(ho:a.one=true):v.oneCell'=true:=by cases h with|any=>simp[AV.one] at ho;|d x v h=>exact h.one ho;|agg=>simp[AV.one] at ho;|tup=>simp[AV.one] at ho;|os k h=>exact h;|_=>rfl
theorem nR {v:Value}(h:v.oneCell'=true):v.cells=#[v]:=by cases v<;>first|rfl|(simp[Value.oneCell'] at h)
def uo:List D→(List AV→Prop)→Prop|[],K=>K []|x::l,K=>uo l fun r=>K (.d x::r)
theorem k8 {l:List D}{K:List AV→Prop}(h:uo l K):K (l.map .d):=by induction l generalizing K with|nil=>exact h;|cons x l ih=>exact ih (K:=fun r=>K (.d x::r)) h
def rY (a:AV)(K:List AV→Prop):Prop:=match a with
 |.agg cs=>match cs.all AV.one with|true=>K cs|false=>False
 |.d (.agg ds)=>match ds.all D.one with|true=>uo ds K|false=>False
 |a=>match a.one with|true=>K [a]|false=>False
structure mw (a:AV)(cs:List AV):Prop where
 one:∀c,c∈cs→c.one=true
 ok:∀p,a.ok p→∀c,c∈cs→c.ok p
 rd:∀w α X v,co w α X a v→v.cells.size=cs.length∧∀(j:Nat)(c:AV),cs[j]?=some c→∃u,v.cells[j]?=some u∧co w α X c u∧u.oneCell'=true
theorem mw.single {a:AV}(h:a.one=true):mw a [a]:=by
 refine⟨fun c hc=>?_,fun p hp c hc=>?_,fun w α X v hr=>?_⟩;·simp at hc;subst hc;exact h
 ·simp at hc;subst hc;exact hp
 ·rw[nR (hr.one' h)];refine⟨rfl,fun j c hc=>?_⟩;cases j with|zero=>simp at hc;subst hc;exact⟨v,rfl,hr,hr.one' h⟩;|succ j=>simp at hc
theorem lZ {a:AV}{K:List AV→Prop}(h:rY a K):∃cs,K cs∧mw a cs:=by
 unfold rY at h;split at h
 ·rename_i cs;split at h;·rename_i hall;have hall:=List.all_eq_true.1 hall;refine⟨cs,h,hall,fun p hp c hc=>by cases hp with|agg _ hh=>exact hh c hc,fun w α X v hr=>?_⟩;cases hr with|agg _ vs hl hc=>
    refine⟨hl.symm,fun j c hj=>?_⟩;have hlt:j<vs.size:=by rw[←hl];exact(Nc.1 hj).1
    have:=hc j c vs[j] hj (by simp[hlt]);exact⟨vs[j],by simp[Value.cells,hlt],this,this.one' (hall c (Ni hj))⟩
  ·cases h
 ·rename_i ds;split at h
  ·rename_i hall;have hall:=List.all_eq_true.1 hall;refine⟨_,k8 h,fun c hc=>?_,fun p _ c hc=>?_,fun w α X v hr=>?_⟩;·obtain⟨x,hx,rfl⟩:=List.mem_map.1 hc;exact hall x hx
   ·obtain⟨x,hx,rfl⟩:=List.mem_map.1 hc;exact .d x
   ·have hr:=hr.dinv;cases hr with|agg _ vs hl hc=>
     refine⟨by simp[Value.cells,hl],fun j c hj=>?_⟩;simp only[List.getElem?_map,Nk] at hj;obtain⟨x,hx,rfl⟩:=hj;have hlt:j<vs.size:=by rw[←hl];exact(Nc.1 hx).1
     have:=hc j x vs[j] hx (by simp[hlt]);exact⟨vs[j],by simp[Value.cells,hlt],.d _ _ this,this.one (hall x (Ni hx))⟩
  ·cases h
 ·split at h;·rename_i ho;exact⟨_,h,mw.single ho⟩
  ·cases h
def sM:List AV→Nat→List AV→(List AV→Prop)→Prop|cs,0,[],K=>K cs|_::cs,0,x::xs,K=>sM cs 0 xs fun r=>K (x::r)|c::cs,j+1,xs,K=>sM cs j xs fun r=>K (c::r)|[],_,_,_=>False
theorem rG {cs new:List AV}{off:Nat}{K:List AV→Prop}(h:sM cs off new K):∃r,K r∧r.length=cs.length∧off+new.length≤cs.length∧∀(j:Nat),r[j]?=if off≤j∧j<off+new.length then new[j-off]? else cs[j]?:=by induction cs generalizing off new K with|nil=>cases off<;>cases new<;>simp only[sM] at h;exact⟨[],h,rfl,by simp,fun j=>by simp⟩;|cons c cs ih=>cases off with
 |zero=>cases new with|nil=>simp only[sM] at h;exact⟨_,h,rfl,by simp,fun j=>by simp⟩;|cons x xs=>simp only[sM] at h;obtain⟨r,h1,h2,h3,h4⟩:=ih h;refine⟨x::r,h1,by simp[h2],by simp at h3⊢;omega,fun j=>?_⟩;cases j with|zero=>simp;|succ j=>have:=h4 j;simp only[Nat.zero_le,true_and,Nat.zero_add,Nat.sub_zero] at this;simp only[List.getElem?_cons_succ,this,Nat.zero_le,true_and,Nat.zero_add,Nb,Nat.sub_zero,Nat.add_lt_add_iff_right]
 |succ off=>simp only[sM] at h;obtain⟨r,h1,h2,h3,h4⟩:=ih h;refine⟨c::r,h1,by simp[h2],by simp only[Nb];omega,fun j=>?_⟩;cases j with|zero=>simp;|succ j=>
 have:=h4 j;simp only[List.getElem?_cons_succ,this];by_cases hj:off≤j∧j<off+new.length;·rw[if_pos hj,if_pos (by omega)];congr 1;omega
 ·rw[if_neg hj,if_neg (by omega)]
def oG (w:World)(α:Nat→dh)(X:Nat→Prop)(cs:List AV)(vs:Array Value):Prop:=cs.length=vs.size∧∀(j:Nat)(c:AV)(v:Value),cs[j]?=some c→vs[j]?=some v→co w α X c v
theorem DD (xs:List Value)(off:Nat):∀(k:Nat)(cs:Array Value),off+k+xs.length≤cs.size→((xs.zipIdx k).foldl (fun cs (c,j)=>cs.setIfInBounds (off+j) c) cs).size=cs.size∧∀j,((xs.zipIdx k).foldl (fun cs (c,j)=>cs.setIfInBounds (off+j) c) cs)[j]?=if off+k≤j∧j<off+k+xs.length then xs[j-(off+k)]? else cs[j]?:=by induction xs with|nil=>intro k cs _;exact⟨rfl,fun j=>by simp;intro h1 h2;omega⟩;|cons x xs ih=>
 intro k cs h;simp only[Nb] at h;simp only[List.zipIdx_cons,List.foldl_cons];obtain⟨h1,h2⟩:=ih (k+1) (cs.setIfInBounds (off+k) x) (by simp;omega);refine⟨by simpa using h1,fun j=>?_⟩;rw[h2 j];simp only[Nb];by_cases hj:j=off+k
 ·subst hj;rw[if_neg (by omega),if_pos (by omega),Nat.sub_self];have:off+k<cs.size:=by omega
  simp[this]
 ·by_cases hj2:off+(k+1)≤j∧j<off+(k+1)+xs.length;·rw[if_pos hj2,if_pos (by omega),show j-(off+k)=(j-(off+(k+1)))+1 by omega];simp
  ·rw[if_neg hj2,if_neg (by omega),Array.getElem?_setIfInBounds_ne (by omega)]
theorem CJ {w:World}{α:Nat→dh}{X:Nat→Prop}{cs new r:List AV}{vs:Array Value}{a:AV}{v:Value}{off:Nat}(hA:oG w α X cs vs)(hc:mw a new)(hv:co w α X a v)(hl:r.length=cs.length)(hb:off+new.length≤cs.length)(hr:∀(j:Nat),r[j]?=if off≤j∧j<off+new.length then new[j-off]? else cs[j]?):oG w α X r (v.cells.zipIdx.foldl (fun cs (c,j)=>cs.setIfInBounds (off+j) c) vs):=by
 obtain⟨h1,h2⟩:=hc.rd w α X v hv;obtain⟨hA1,hA2⟩:=hA;rw[←Array.foldl_toList,Array.toList_zipIdx];obtain⟨h3,h4⟩:=DD v.cells.toList off 0 vs (by simp[h1];omega);refine⟨by rw[h3];omega,fun j c u hj hu=>?_⟩;rw[h4 j] at hu;rw[hr j] at hj;simp only[Nat.add_zero,Array.length_toList,h1] at hu;split at hj
 ·rename_i hin;rw[if_pos hin] at hu;obtain⟨u',h5,h6,_⟩:=h2 _ _ hj;have:u'=u:=by rw[Array.getElem?_toList] at hu;rw[h5] at hu;cases hu;rfl
  subst this;exact h6
 ·rename_i hin;rw[if_neg hin] at hu;exact hA2 j c u hj hu
theorem kR : ∀ {vs : List Value} {as : List AV}, zl vs as = true → as.length = vs.length ∧ ∀ (j : Nat) (a : AV), as[j]? = some a → ∃ v, vs[j]? = some v ∧ zm a v = true
  | [], [], _ => ⟨rfl, fun j a h => by simp at h⟩
  | v :: vs, a :: as, h => by
    simp only [zl, Bool.and_eq_true] at h
    obtain ⟨h1, h2⟩ := kR h.2
    refine ⟨by simp [h1], fun j b hj => ?_⟩
    cases j with
    | zero => simp at hj; subst hj; exact ⟨v, rfl, h.1⟩
    | succ j => simpa using h2 j b (by simpa using hj)
  | [], _ :: _, h => by simp [zl] at h
  | _ :: _, [], h => by simp [zl] at h
theorem LD {a:AV}{v:Value}(h:zm a v=true):a.one=true:=by unfold zm at h;split at h<;>first|rfl|cases h
theorem MS {vs : List Value} {as : List AV} (h : zl vs as = true) : ∀ c, c ∈ as → c.one = true := by
  intro c hc
  obtain ⟨j, hj⟩ := List.mem_iff_getElem?.1 hc
  obtain ⟨v, _, h4⟩ := (kR h).2 j c hj
  exact LD h4
theorem kL {w : World} {α : Nat → dh} {X : Nat → Prop} {z : Value} {as : List AV} (h : zl z.cells.toList as = true) : oG w α X as z.cells := by
  obtain ⟨h1, h2⟩ := kR h
  refine ⟨by simpa using h1, fun j c v hc hv => ?_⟩
  obtain ⟨u, h3, h4⟩ := h2 j c hc
  have : u = v := by
    rw [Array.getElem?_toList, hv] at h3; cases h3; rfl
  subst this; exact JV h4
theorem KX {p : Nat → Prop} {vs : List Value} {as : List AV} (h : zl vs as = true) : ∀ c, c ∈ as → c.ok p := by
  intro c hc
  obtain ⟨j, hj⟩ := List.mem_iff_getElem?.1 hc
  obtain ⟨v, _, h4⟩ := (kR h).2 j c hj
  exact zm_ok h4
theorem FK {P:Program}{T:TypeId}{ti:iQ}(ht:eD P T ti):∃z,(∀w,(zeroValue T).run P w=.ok z w)∧zl z.cells.toList ti.zero=true:=by obtain⟨⟨i,hi,_,_,z,hz,hl⟩,_⟩:=ht;exact⟨z,fun w=>by simp[zeroValue,typeInfo,hi,hz],hl⟩
end Go.Eng
