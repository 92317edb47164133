/- A part of the proof of what is stated of the erasing of a mirror. -/
import Derived.Test.YtgfdbddglhblbaaGreatQac
import Derived.Room.Entries
import Derived.Laws.Tables
import Derived.Great.BuildSlice
set_option maxHeartbeats 64000000
namespace Go.Eng
section
variable {C:cq}{n:Nat}{o:Oper}{nm:Nat}{st:AS}{K:KO}
def vO (nm:Nat)(a:AV)(K:KO):Prop:=match a with|.nl sz=>K (.os (16*nm)) [(16*nm,some (.buf sz []))] []|a=>K a [] []
theorem zy {x:Operand}(ho:o.op=.assign x)(h:lA C st o.type x fun a=>vO nm a K):∃out upd rd,K out upd rd∧cr C n o nm st rd out upd:=by
 replace h:=gf h;obtain⟨av,h1,h⟩:=h;have hmem:x∈o.op.operands:=by rw[ho];simp[Op.operands]
 unfold vO at h;split at h
 ·rename_i sz;refine⟨_,_,_,h,fun k oe hl=>?_,fun X0 F w0 p α S a w Q next hs he _ hp hd hn=>?_⟩
  ·simp only[look] at hl;split at hl;·rename_i hb;rw[Nd hb];exact .inr (cI nm 0 (by omega))
   ·cases hl
  have hr:=(h1.to hmem he).read hs;generalize hv:a.eval x=v at hr;cases hr;let L:dh:=⟨0,0,sz,true,.slice none 0 0⟩;have hpn:¬p (16*nm):=hp _ (cI nm 0 (by omega));have hLk:bK α (16*nm) L (16*nm)=L:=by simp[bK]
  have hα:∀k,p k→bK α (16*nm) L k=α k:=by intro k hk;have:k≠16*nm:=fun h=>hpn (h▸hk);simp[bK,this]
  have hlk:∀k oe,look [(16*nm,some (aS.buf sz []))] k=some oe→k=16*nm∧oe=some (aS.buf sz []):=by
   intro k oe hl;simp only[look] at hl;split at hl;·rename_i hb;exact⟨Nd hb,by cases hl;rfl⟩
   ·cases hl
  have hrun:(execOp a.eval o).run C.P w=.ok (.value (.slice none 0 0)) w:=by simp[execOp,ho,hv]
  refine em hrun (hn (bK α (16*nm) L) _ w ?_);refine hs.upd _ (fun k hk=>.inl hk) _ w o.dst hd (.os (16*nm)) _ _ hα (Nat.le_refl _) rfl rfl rfl (fun _ _ _=>rfl) ?_ ?_ ?_ ?_ ?_ (.os _ (.inr (cI nm 0 (by omega))));·intro k e hl;obtain⟨rfl,_⟩:=hlk k _ hl;exact .inr (cI nm 0 (by omega))
  ·intro k e hl hnil;obtain⟨rfl,_⟩:=hlk k _ hl;rw[hLk] at hnil;cases hnil
  ·intro k e k' e' hl hl' _ _ _;obtain⟨rfl,_⟩:=hlk k _ hl;obtain⟨rfl,_⟩:=hlk k' _ hl';rfl
  ·intro _ k e hl;obtain⟨rfl,h2⟩:=hlk k _ hl;cases h2;refine⟨.inl ?_,fun x hx=>by cases hx⟩;rw[hLk];exact⟨rfl,⟨sz,_,rfl⟩,rfl⟩
  ·intro _;have:=co.os (w:=w) (α:=bK α (16*nm) L) (X:=XX (bK α (16*nm) L) (S.upd o.dst (.os (16*nm)) [(16*nm,some (aS.buf sz []))]).own X0) (16*nm) (by rw[hLk];rfl);rw[hLk] at this;exact this
 ·refine⟨_,_,_,h,cr.pure fun X0 F w0 p α S a w hs he _=>?_⟩;have hx:=h1.to hmem he;exact⟨a.eval x,by simp[execOp,ho],hx.read hs,hx.ok hs⟩
def If:List AV→(List D→Prop)→Prop
 |[],K=>K []|.d x::l,K=>match x.one with|true=>If l fun r=>K (x::r)|false=>False
 |.nl sz::l,K=>If l fun r=>K (.sl sz []::r)|_::_,_=>False
theorem vB {l:List AV}{K:List D→Prop}(h:If l K):∃ds,K ds∧ds.length=l.length∧(∀d,d∈ds→d.one=true)∧∀w α X (j:Nat)(d:D)(a:AV)(v:Value),ds[j]?=some d→l[j]?=some a→co w α X a v→Rd w X d v:=by induction l generalizing K with|nil=>exact⟨[],h,rfl,(fun d hd=>by cases hd),fun w α X j d a v hd=>by simp at hd⟩;|cons b l ih=>cases b with
 |d x=>
 simp only[If] at h;split at h
 ·rename_i hone;obtain⟨ds,h1,h2,h3,h4⟩:=ih h;refine⟨x::ds,h1,by simp[h2],fun d hd=>?_,fun w α X j d a v hd ha hr=>?_⟩
  ·rcases List.mem_cons.1 hd with rfl|hd;·exact hone
   ·exact h3 d hd
  ·cases j with|zero=>simp at hd ha;subst hd ha;exact hr.dinv;|succ j=>exact h4 w α X j d a v (by simpa using hd) (by simpa using ha) hr
 ·cases h;|nl sz=>
 simp only[If] at h;obtain⟨ds,h1,h2,h3,h4⟩:=ih h;refine⟨.sl sz []::ds,h1,by simp[h2],fun d hd=>?_,fun w α X j d a v hd ha hr=>?_⟩
 ·rcases List.mem_cons.1 hd with rfl|hd;·rfl
  ·exact h3 d hd
 ·cases j with|zero=>simp at hd ha;subst hd ha;cases hr;exact .slnil sz;|succ j=>exact h4 w α X j d a v (by simpa using hd) (by simpa using ha) hr
 |_=>simp only[If] at h
theorem fR {d:D}(h:d.one=true):d.cells=[d]:=by cases d<;>first|rfl|(simp[D.one] at h)
def yR (C:cq)(nm:Nat)(T:TypeId)(K:KO):Prop:=aW C.tab T fun ti=>match ti.kd with
 |.array _ e=>aW C.tab e fun te=>match te.size with
  |1=>If ti.zero fun ds=>K (.op (16*nm) 0 0) [(16*nm,some (.arr 1 ds))] []|_=>False
 |_=>K (.op (16*nm) 0 0) [(16*nm,some (.box ti.zero (some T)))] []
theorem rH {P:Program}(w:World)(T:TypeId)(v:Value):(newVar T v).run P w=.ok ⟨w.heap.size,0,none⟩ (w.alloc (.cells v.cells T)):=by simp[newVar,newRow]
theorem wo {w:World}{α:Nat→dh}{X:Nat→Prop}{p:Nat→Prop}{cs:List AV}{v:Value}{T:TypeId}(hA:oG w α X cs v.cells)(hok:∀c,c∈cs→c.ok p)(hone:∀c,c∈cs→c.one=true):Ec w (w.alloc (.cells v.cells T)) α X p (.box cs (some T)) (.bool false) v.cells T (0,0) 1:=by
 refine⟨rfl,rfl,rfl,rfl,Nat.le_refl _,?_,⟨Nat.le_refl _,fun o _=>by simp⟩,hone,fun j m c hc=>?_,hok,fun sz xs _ h=>(aS.noConfusion h),rfl,fun U h=>by cases h;exact⟨rfl,fun cs' V h=>by cases h;exact hA.1.symm⟩⟩;·simp only[aS.sz];rw[hA.1];omega
 ·simp only[aS.cell] at hc;split at hc
  ·rename_i hj;subst hj;have hlt:m<v.cells.size:=by rw[←hA.1];exact(Nc.1 hc).1
   exact⟨v.cells[m],by simp[hlt],hA.2 m c _ hc (by simp[hlt])⟩
  ·cases hc
theorem wg {w:World}{α:Nat→dh}{X:Nat→Prop}{p:Nat→Prop}{ds:List D}{v:Value}{T:TypeId}(hl:ds.length=v.cells.size)(hone:∀d,d∈ds→d.one=true)(hA:∀(j:Nat)(d:D)(u:Value),ds[j]?=some d→v.cells[j]?=some u→Rd w X d u):Ec w (w.alloc (.cells v.cells T)) α X p (.arr 1 ds) (.bool false) v.cells T (0,0) ds.length:=by
 refine⟨rfl,rfl,rfl,rfl,Nat.le_refl _,?_,⟨Nat.le_refl _,fun o _=>by simp⟩,fun j x hx=>?_,fun j m c hc=>?_,(fun x hx=>by cases hx),fun sz xs _ h=>(aS.noConfusion h),rfl,fun U h=>by cases h⟩;·simp only[aS.sz];omega
 ·have h1:=hone x (Ni hx);unfold D.wd;rw[fR h1];exact⟨rfl,fun c hc=>by simp at hc;subst hc;exact h1⟩
 ·simp only[aS.cell,Nu,Nk] at hc;obtain⟨x,hx,y,hy,rfl⟩:=hc;rw[fR (hone x (Ni hx))] at hy;have hlt:j<v.cells.size:=by rw[←hl];exact(Nc.1 hx).1
  cases m with|zero=>simp at hy;subst hy;exact⟨v.cells[j],by simp[aS.sz,hlt],.d _ _ (hA j x _ hx (by simp[hlt]))⟩;|succ m=>simp at hy
theorem Ch {T:TypeId}(ho:o.op=.alloc T)(h:yR C nm T K):∃out upd rd,K out upd rd∧cr C n o nm st rd out upd:=by
 unfold yR at h;replace h:=aJ h;obtain⟨ti,hti,h⟩:=h;obtain⟨z,hz,hzl⟩:=FK (C.ty hti);have run:∀(a:Act)(w:World),(execOp a.eval o).run C.P w=.ok (.value (.pointer (some ⟨w.heap.size,0,none⟩))) (w.alloc (.cells z.cells T)):=by intro a w;simp[execOp,ho,Instr.alloc,hz,rH]
 have box:K (.op (16*nm) 0 0) [(16*nm,some (.box ti.zero (some T)))] []→∃out upd rd,K out upd rd∧cr C n o nm st rd out upd:=by intro h;exact⟨_,_,_,h,cr.make (kills:=[]) (fun _ hk=>by cases hk) (.inr rfl) fun X0 F w0 p α S a w hs he _=>⟨_,_,_,_,_,_,wo (kL hzl) (KX hzl) (MS hzl),run a w⟩⟩
 split at h
 ·replace h:=aJ h;obtain⟨te,hte,h⟩:=h;split at h
  ·replace h:=vB h;obtain⟨ds,h,h2,h3,h4⟩:=h;refine⟨_,_,_,h,cr.make (kills:=[]) (fun _ hk=>by cases hk) (.inr rfl) fun X0 F w0 p α S a w hs he _=>⟨_,_,_,_,_,_,wg ?_ h3 ?_,run a w⟩⟩;·have:=(kR hzl).1;simp at this;omega
   ·intro j d u hd hu;obtain⟨av,hav⟩:∃av,ti.zero[j]?=some av:=by
     have:j<ti.zero.length:=by rw[←h2];exact(Nc.1 hd).1
     exact⟨ti.zero[j],by simp[this]⟩
    exact h4 w α _ j d av u hd hav ((kL hzl).2 j av u hav hu)
  ·cases h
 ·exact box h
def Lm (C:cq)(nm:Nat)(T:TypeId)(a:AV)(K:KO):Prop:=aW C.tab T fun ti=>match ti.kd,a with
 |.array _ e,.d (.agg ds)=>aW C.tab e fun te=>match te.size,ds.all D.one with
  |1,true=>K (.op (16*nm) 0 0) [(16*nm,some (.arr 1 ds))] []|_,_=>False
 |.array _ _,_=>False|_,a=>rY a fun cs=>K (.op (16*nm) 0 0) [(16*nm,some (.box cs (some T)))] []
theorem IT {T:TypeId}{x:Operand}(ho:o.op=.box T x)(h:lA C st T x fun a=>Lm C nm T a K):∃out upd rd,K out upd rd∧cr C n o nm st rd out upd:=by
 replace h:=gf h;obtain⟨va,h1,h⟩:=h;have hmem:x∈o.op.operands:=by rw[ho];simp[Op.operands]
 unfold Lm at h;replace h:=aJ h;obtain⟨ti,hti,h⟩:=h;have run:∀(a:Act)(w:World),(execOp a.eval o).run C.P w=.ok (.value (.pointer (some ⟨w.heap.size,0,none⟩))) (w.alloc (.cells (a.eval x).cells T)):=by intro a w;simp[execOp,ho,Instr.box,rH]
 split at h
 ·rename_i m e ds hk;replace h:=aJ h;obtain⟨te,hte,h⟩:=h;split at h;·rename_i hall;have hall:=List.all_eq_true.1 hall;refine⟨_,_,_,h,cr.make (kills:=[]) (fun _ hk=>by cases hk) (.inr rfl) fun X0 F w0 p α S a w hs he _=>?_⟩;have hr:=((h1.to hmem he).read hs).dinv;have hrun:=run a w;generalize hv:a.eval x=v at hr hrun;cases hr with|agg _ vs hl hc=>exact⟨_,_,_,_,_,_,wg (v:=.agg vs) hl hall hc,hrun⟩
  ·cases h
 ·cases h
 ·replace h:=lZ h;obtain⟨cs,h,hcs⟩:=h;refine⟨_,_,_,h,cr.make (kills:=[]) (fun _ hk=>by cases hk) (.inr rfl) fun X0 F w0 p α S a w hs he _=>?_⟩;have hx:=h1.to hmem he;obtain⟨h3,h4⟩:=hcs.rd w α _ _ (hx.read hs);refine⟨_,_,_,_,_,_,wo ⟨h3.symm,fun j c v hc hv=>?_⟩ (hcs.ok p (hx.ok hs)) hcs.one,run a w⟩;obtain⟨u,h5,h6,_⟩:=h4 j c hc;rw[hv] at h5;cases h5;exact h6
end
end Go.Eng
namespace Go.Eng
theorem cr.give {C:cq}{n:Nat}{o:Oper}{nm:Nat}{st:AS}{rd kills:List Nat}{out:AV}(hkr:∀k,k∈kills→k∈rd)(h0:∀k,k∈kills→∃e,st.ss.own k=some e)(H:∀(X0:Nat→Prop)(F:Fr)(w0:World)(p:Nat→Prop)(α:Nat→dh)(S:SS)(a:Act)(w:World),dn C.G X0 F w0 n p α S a w→(∀t,Operand.tmp t∈o.op.operands→∀av,st.ss.env t=some av→S.env t=some av)→(∀k,k∈rd→∀e,st.ss.own k=some e→S.own k=some e)→∃v,(execOp a.eval o).run C.P w=.ok (.value v) w∧out.ok p∧∀X':Nat→Prop,(∀b,X' b→XX α S.own X0 b)→(∀k,k∈kills→(α k).nil=false→¬X' (α k).blk)→co w α X' out v):cr C n o nm st rd out (kills.map fun k=>(k,none)):=by
 have hlk:∀k oe,look (kills.map fun k=>(k,(none:Option aS))) k=some oe→k∈kills∧oe=none:=by
  intro k oe hl;rcases dy (β:=aS) kills k with h|⟨h,hm⟩;·rw[h] at hl;cases hl
  ·rw[h] at hl;cases hl;exact⟨hm,rfl⟩
 have hin:∀k,k∈kills→look (kills.map fun k=>(k,(none:Option aS))) k=some none:=by intro k hk;clear hkr h0 H hlk;induction kills with|nil=>cases hk;|cons x l ih=>
   simp only[Nw,look];split;·rfl
   ·rename_i hb;rcases List.mem_cons.1 hk with rfl|hk;·simp at hb
    ·exact ih hk
 refine⟨fun k oe hl=>.inl (hkr k (hlk k oe hl).1),fun X0 F w0 p α S a w Q next hs he ho _ hd hn=>?_⟩;obtain⟨v,h1,h2,h3⟩:=H X0 F w0 p α S a w hs he ho;refine em h1 (hn α v w ?_);refine hs.upd _ (fun k hk=>.inl hk) α w o.dst hd out _ v (fun _ _=>rfl) (Nat.le_refl _) rfl rfl rfl (fun _ _ _=>rfl) ?_ ?_ ?_ ?_ ?_ (h2.mono fun k hk=>.inl hk);·intro k e hl;cases (hlk k _ hl).2
 ·intro k e hl;cases (hlk k _ hl).2
 ·intro k e k' e' hl;cases (hlk k _ hl).2
 ·intro _ k e hl;cases (hlk k _ hl).2
 ·intro _;have aI:∀k e,(S.upd o.dst out (kills.map fun k=>(k,none))).own k=some e→k∉kills∧S.own k=some e:=by
   intro k e hk;simp only[SS.upd] at hk;rcases dy (β:=aS) kills k with h|⟨h,hm⟩;·rw[h] at hk;refine⟨fun hm=>?_,hk⟩;rw[hin k hm] at h;cases h
   ·rw[h] at hk;cases hk
  refine h3 _ ?_ ?_
  ·rintro b (⟨k,e,hk,hnil,rfl⟩|hx);·exact .inl ⟨k,e,(aI k e hk).2,hnil,rfl⟩
   ·exact .inr hx
  ·rintro k hk hnil (⟨k',e',hk',hnil',hb⟩|hx);·obtain⟨e,he'⟩:=h0 k hk;have hSk:=ho k (hkr k hk) e he';obtain⟨hn1,hn2⟩:=aI k' e' hk';have:=hs.inj k' e' k e hn2 hSk hnil' hnil hb;subst this;exact hn1 hk
   ·obtain⟨e,he'⟩:=h0 k hk;exact(hs.mine k e (ho k (hkr k hk) e he') hnil).2 hx
theorem mE {w:World}{α:Nat→dh}{X X':Nat→Prop}{k sz:Nat}{xs:List D}{T0:Option TypeId}(h:lj w α X k (.buf sz xs T0))(hX:∀b,X' b→X b)(hb:(α k).nil=false→¬X' (α k).blk):Rd w X' (.sl sz xs) (α k).hv:=by
 rcases h with⟨_,⟨sz',_,he⟩,hv⟩|⟨hnil,arr,T,fz,cap,hB⟩;·cases he;rw[hv];exact .slnil sz
 ·rw[hB.hv sz xs _ rfl];have hval:∀(j m:Nat)(x c:D),xs[j]?=some x→x.cells[m]?=some c→arr[(α k).off+j*sz+m]?=some (arr.getD ((α k).off+j*sz+m) undef)∧Rd w X' c (arr.getD ((α k).off+j*sz+m) undef):=by intro j m x c hx hc;obtain⟨v,hv,hr⟩:=hB.rd j m _ (kM (e:=.buf sz xs _) rfl hx hc);simp only[aS.sz] at hv;have:=hr.dinv.mono (X':=X') fun b o hb' hnx=>⟨hb',fun hx'=>hnx (hX b hx')⟩;simp[Array.getD_eq_getD_getElem?,hv,this]
  exact .sl sz xs _ _ _ cap arr T fz (fun j m=>arr.getD ((α k).off+j*sz+m) undef) hB.heap (hb hnil) rfl hB.len hB.wid (fun j m x c hx hc=>(hval j m x c hx hc).1) fun j m x c hx hc=>(hval j m x c hx hc).2
def BV (o:Option Value)(dflt j:Nat):Prop:=(o=none∧j=dflt)∨∃k,o=some (.int k (j:Int))
theorem gm {P:Program}{w:World}{isS:Bool}{len cap jl jh:Nat}{lo hi:Option Value}(h1:BV lo 0 jl)(h2:BV hi len jh)(h3:jl≤jh)(h4:jh≤cap):(Instr.sliceBounds isS len cap lo hi none).run P w=.ok (jl,jh,cap) w:=by
 have hb:∀(k:IntKind)(j y:Nat)(c:BoundsCode),j≤y→(Instr.sliceBound (.int k (j:Int)) y c).run P w=.ok j w:=by intro k j y c hj;simp[Instr.sliceBound,asIntOf,hj]
 rcases h1 with⟨rfl,rfl⟩|⟨k,rfl⟩<;>rcases h2 with⟨rfl,rfl⟩|⟨k',rfl⟩;·simp[Instr.sliceBounds]
 ·simp[Instr.sliceBounds,hb _ _ _ _ h4]
 ·simp[Instr.sliceBounds,hb _ _ _ _ h3]
 ·simp[Instr.sliceBounds,hb _ _ _ _ h4,hb _ _ _ _ h3]
def D2 (st:AS):Option Operand→(Option Int→Prop)→Prop|none,K=>K none|some x,K=>fF st x fun a=>nC a fun _ i=>K (some i)
inductive Ov (env:Nat→Option AV):Option Operand→Option Int→Prop where|none:Ov env none none|some (x:Operand)(k:IntKind)(i:Int):Ev env x (.d (.i k i))→Ov env (some x) (some i)
theorem kZ {st:AS}{x:Option Operand}{K:Option Int→Prop}(h:D2 st x K):∃i,Ov st.ss.env x i∧K i:=by cases x with|none=>exact⟨none,.none,h⟩;|some x=>
 obtain⟨a,h1,h2⟩:=bx h;unfold nC at h2;split at h2;·rename_i k i;exact⟨some i,.some x k i h1,h2⟩
 ·cases h2
def CV {β:Type}(l:List β)(lo hi:Option Int)(K:List β→Prop):Prop:=match lo,hi with|none,none=>K l|none,some b=>Ab b l.length fun j=>K (l.take j)|some a,none=>Ab a l.length fun j=>K (l.drop j)|some a,some b=>Ab b l.length fun jh=>Ab a jh fun jl=>K ((l.take jh).drop jl)
theorem mC {β:Type}{l:List β}{lo hi:Option Int}{K:List β→Prop}(h:CV l lo hi K):∃jl jh,K ((l.take jh).drop jl)∧jl≤jh∧jh≤l.length∧(lo=none∧jl=0∨lo=some (jl:Int))∧(hi=none∧jh=l.length∨hi=some (jh:Int)):=by
 unfold CV at h;split at h;·exact⟨0,l.length,by simpa using h,by omega,by omega,.inl ⟨rfl,rfl⟩,.inl ⟨rfl,rfl⟩⟩
 ·obtain⟨j,rfl,hj,h⟩:=h;exact⟨0,j,by simpa using h,by omega,hj,.inl ⟨rfl,rfl⟩,.inr rfl⟩
 ·obtain⟨j,rfl,hj,h⟩:=h;exact⟨j,l.length,by simpa using h,hj,by omega,.inr rfl,.inl ⟨rfl,rfl⟩⟩
 ·obtain⟨jh,rfl,hh,jl,rfl,hl,h⟩:=h;exact⟨jl,jh,h,hl,hh,.inr rfl,.inr rfl⟩
theorem Aw (l:List UInt8)(a b:Nat):(ByteArray.mk l.toArray).extract a b=⟨((l.take b).drop a).toArray⟩:=by apply ByteArray.ext;simp only[ByteArray.data_extract];apply Array.ext';simp[List.drop_take]
theorem FL {w:World}{α:Nat→dh}{X X':Nat→Prop}{k sz:Nat}{xs:List D}(h:lj w α X k (.arr sz xs))(hX:∀b,X' b→X b)(hb:(α k).nil=false→¬X' (α k).blk):Rd w X' (.sl sz xs) (.slice (some ⟨(α k).blk,(α k).off,none⟩) xs.length xs.length):=by
 rcases h with⟨_,⟨sz',_,he⟩,hv⟩|⟨hnil,arr,T,fz,cap,hB⟩;·cases he
 ·have hval:∀(j m:Nat)(x c:D),xs[j]?=some x→x.cells[m]?=some c→arr[(α k).off+j*sz+m]?=some (arr.getD ((α k).off+j*sz+m) undef)∧Rd w X' c (arr.getD ((α k).off+j*sz+m) undef):=by intro j m x c hx hc;obtain⟨v,hv,hr⟩:=hB.rd j m _ (kM (e:=.arr sz xs) rfl hx hc);simp only[aS.sz] at hv;have:=hr.dinv.mono (X':=X') fun b o hb' hnx=>⟨hb',fun hx'=>hnx (hX b hx')⟩;simp[Array.getD_eq_getD_getElem?,hv,this]
  exact .sl sz xs _ _ _ xs.length arr T fz (fun j m=>arr.getD ((α k).off+j*sz+m) undef) hB.heap (hb hnil) rfl (Nat.le_refl _) hB.wid (fun j m x c hx hc=>(hval j m x c hx hc).1) fun j m x c hx hc=>(hval j m x c hx hc).2
def nB (C:cq)(st:AS)(T:TypeId)(a:AV)(lo hi:Option Int)(K:KO):Prop:=aW C.tab T fun ti=>match a,ti.kd with
 |.d (.s l),.str=>CV l lo hi fun r=>K (.d (.s r)) [] []|.d (.sl sz xs),.slice e=>aW C.tab e fun te=>match Nat.beq te.size sz with
  |true=>CV xs lo hi fun r=>K (.d (.sl sz r)) [] []|false=>False
 |.os k,.slice e=>iH st k fun en=>aW C.tab e fun te=>match en with
  |.buf sz xs _=>match Nat.beq te.size sz with
   |true=>CV xs lo hi fun r=>K (.d (.sl sz r)) [(k,none)] [k]|false=>False
  |_=>False
 |.op k 0 0,.array m e=>iH st k fun en=>aW C.tab e fun te=>match en with
  |.arr sz xs=>match Nat.beq te.size sz with|true=>Ei m xs.length (CV xs lo hi fun r=>K (.d (.sl sz r)) [(k,none)] [k])|false=>False
  |_=>False
 |_,_=>False
section
variable {C:cq}{n:Nat}{o:Oper}{nm:Nat}{st:AS}{K:KO}
theorem jE {G:List Gl}{X0:Nat→Prop}{F:Fr}{w0:World}{n:Nat}{p:Nat→Prop}{α:Nat→dh}{S:SS}{a:Act}{w:World}(hs:dn G X0 F w0 n p α S a w){x:Option Operand}{i:Option Int}{env:Nat→Option AV}(h:Ov env x i)(he:∀t,x=some (.tmp t)→∀av,env t=some av→S.env t=some av){d j:Nat}(hi:i=none∧j=d∨i=some (j:Int)):BV (x.map a.eval) d j:=by cases h with|none=>rcases hi with⟨_,rfl⟩|h;exact .inl ⟨rfl,rfl⟩;cases h;|some x k i hx=>
 rcases hi with⟨h,_⟩|h;·cases h
 ·cases h;have:=((hx.congr fun t e=>he t (by rw[e])).read hs).dinv.iinv;exact .inr ⟨k,by simp[this]⟩
theorem dP {P:Program}{w:World}{T e:TypeId}{ti te:iQ}(ht:eD P T ti)(hk:ti.kd=.slice e)(hte:eD P e te)(b:Option Addr){len cap jl jh:Nat}{lo hi:Option Value}(h1:BV lo 0 jl)(h2:BV hi len jh)(h3:jl≤jh)(h4:jh≤cap):(Instr.sliceAt T (.slice b len cap) lo hi none).run P w=.ok (.slice (if cap=jl then b else b.map (·.add (jl*te.size))) (jh-jl) (cap-jl)) w:=by have hu:=cM ht hk;simp[Instr.sliceAt,Instr.slice,underlying,hu,gm h1 h2 h3 h4,kG hte]
theorem sT {P:Program}{w:World}{T e m:TypeId}{ti te:iQ}(ht:eD P T ti)(hk:ti.kd=.array m e)(hte:eD P e te)(b:Addr){jl jh:Nat}{lo hi:Option Value}(h1:BV lo 0 jl)(h2:BV hi m jh)(h3:jl≤jh)(h4:jh≤m):(Instr.sliceAt T (.pointer (some b)) lo hi none).run P w=.ok (.slice (if m=jl then some b else(some b).map (·.add (jl*te.size))) (jh-jl) (m-jl)) w:=by have hu:=lm ht hk;simp[Instr.sliceAt,Instr.sureAddr,underlying,hu,gm h1 h2 h3 h4,kG hte];split<;>rfl
theorem sP {P:Program}{w:World}{T:TypeId}{ti:iQ}(ht:eD P T ti)(hk:ti.kd=.str)(l:List UInt8){jl jh:Nat}{lo hi:Option Value}(h1:BV lo 0 jl)(h2:BV hi l.length jh)(h3:jl≤jh)(h4:jh≤l.length):(Instr.sliceAt T (.string ⟨l.toArray⟩) lo hi none).run P w=.ok (.string ⟨((l.take jh).drop jl).toArray⟩) w:=by have hu:=lu ht hk;have:=gm (P:=P) (w:=w) (isS:=false) (len:=l.length) (cap:=l.length) h1 h2 h3 h4;simp[Instr.sliceAt,Instr.slice,underlying,hu,iv,this,Aw]
theorem uQ {β:Type}{l:List β}{jl jh j:Nat}{x:β}(h:((l.take jh).drop jl)[j]?=some x):l[jl+j]?=some x:=by
 rw[List.getElem?_drop,List.getElem?_take] at h;split at h;·exact h
 ·cases h
theorem mL {w:World}{X:Nat→Prop}{sz:Nat}{xs:List D}{b:Option Addr}{len cap jl jh:Nat}(h:Rd w X (.sl sz xs) (.slice b len cap))(h3:jl≤jh)(h4:jh≤xs.length):Rd w X (.sl sz ((xs.take jh).drop jl)) (.slice (if cap=jl then b else b.map (·.add (jl*sz))) (jh-jl) (cap-jl))∧jh≤cap∧len=xs.length:=by cases h with
 |slnil=>
 simp at h4;subst h4;have:jl=0:=by omega
 subst this;exact⟨by simpa using Rd.slnil sz,by omega,rfl⟩;|sle _ a=>
 simp at h4;subst h4;have:jl=0:=by omega
 subst this;refine⟨?_,by omega,rfl⟩;have ha:a.add 0=a:=by unfold Addr.add;rw[if_pos rfl]
 have:=Rd.sle (w:=w) (X:=X) sz a cap;by_cases hc:cap=0;·rw[if_pos hc];simpa using this
 ·rw[if_neg hc];simpa[ha] using this;|sl _ _ blk off _ _ arr T fz f hh hX hl hc hw h1 h2=>
 refine⟨?_,by omega,hl.symm⟩;by_cases hcap:cap=jl;·rw[if_pos hcap];have:(xs.take jh).drop jl=[]:=List.eq_nil_of_length_eq_zero (by simp;omega);rw[this];refine .sl sz [] blk off _ _ arr T fz f hh hX (by simp;omega) (by omega) ?_ ?_ ?_<;>intro j<;>simp
 ·rw[if_neg hcap];simp only[Option.map_some,Addr.add_mk];refine .sl sz _ blk (off+jl*sz) _ _ arr T fz (fun j m=>f (jl+j) m) hh hX (by simp;omega) (by omega) ?_ ?_ ?_;·intro j x hx;exact hw (jl+j) x (uQ hx)
  ·intro j m x c hx hc';have:=h1 (jl+j) m x c (uQ hx) hc';rw[←this];congr 1;rw[Nat.add_mul];omega
  ·intro j m x c hx hc';exact h2 (jl+j) m x c (uQ hx) hc'
theorem Dv {T:TypeId}{x:Operand}{lo hi:Option Operand}(ho:o.op=.slice T x lo hi none)(h:fF st x fun a=>D2 st lo fun l=>D2 st hi fun r=>nB C st T a l r K):∃out upd rd,K out upd rd∧cr C n o nm st rd out upd:=by
 replace h:=bx h;obtain⟨va,h1,h⟩:=h;replace h:=kZ h;obtain⟨vl,h2,h⟩:=h;replace h:=kZ h;obtain⟨vh,h3,h⟩:=h;have hm1:x∈o.op.operands:=by rw[ho];simp[Op.operands]
 have hm2:∀y,lo=some y→y∈o.op.operands:=by intro y hy;rw[ho,hy];simp[Op.operands]
 have hm3:∀y,hi=some y→y∈o.op.operands:=by intro y hy;rw[ho,hy];simp[Op.operands]
 unfold nB at h;replace h:=aJ h;obtain⟨ti,hti,h⟩:=h;have run:∀(a:Act)(w:World)(v:Value),(Instr.sliceAt T (a.eval x) (lo.map a.eval) (hi.map a.eval) none).run C.P w=.ok v w→(execOp a.eval o).run C.P w=.ok (.value v) w:=by intro a w v hv;simp[execOp,ho,hv]
 split at h;·rename_i l hk;replace h:=mC h;obtain⟨jl,jh,h,h5,h6,h7,h8⟩:=h;refine⟨_,_,_,h,cr.pure fun X0 F w0 p α S a w hs he _=>?_⟩;have hx:=((h1.to hm1 he).read hs).dinv.sinv;have hl:=jE hs h2 (fun t e=>he t (hm2 _ e)) (d:=0) h7;have hh:=jE hs h3 (fun t e=>he t (hm3 _ e)) (d:=l.length) h8;refine⟨_,run a w _ ?_,.d _ _ (.s _),.d _⟩;rw[hx];exact sP (C.ty hti) hk l hl hh h5 h6
 ·rename_i sz xs e hk;replace h:=aJ h;obtain⟨te,hte,h⟩:=h;split at h;·rename_i hsz;have hsz:=Nd hsz;replace h:=mC h;obtain⟨jl,jh,h,h5,h6,h7,h8⟩:=h;refine⟨_,_,_,h,cr.pure fun X0 F w0 p α S a w hs he _=>?_⟩;have hr:=((h1.to hm1 he).read hs).dinv;obtain⟨b,cap,hx⟩:=hr.slinv;rw[hx] at hr;have hl:=jE hs h2 (fun t e=>he t (hm2 _ e)) (d:=0) h7;have hh:=jE hs h3 (fun t e=>he t (hm3 _ e)) (d:=xs.length) h8;obtain⟨h9,h10,h11⟩:=mL hr h5 h6;refine⟨_,run a w _ (by rw[hx];exact dP (C.ty hti) hk (C.ty hte) b hl hh h5 h10),?_,.d _⟩;rw[hsz];exact .d _ _ h9
  ·cases h
 ·rename_i k e hk;replace h:=cQ h;obtain⟨en,hen,h⟩:=h;replace h:=aJ h;obtain⟨te,hte,h⟩:=h;split at h
  ·rename_i sz xs T0;split at h
   ·rename_i hsz;have hsz:=Nd hsz;replace h:=mC h;obtain⟨jl,jh,h,h5,h6,h7,h8⟩:=h;refine⟨_,_,_,h,cr.give (kills:=[k]) (fun _ hk=>hk) (fun j hj=>by simp at hj;subst hj;exact⟨_,hen⟩) fun X0 F w0 p α S a w hs he ho'=>?_⟩;have hSk:=ho' k (by simp) _ hen;have hr:=(h1.to hm1 he).read hs;generalize hx:a.eval x=v at hr;cases hr;have hl:=jE hs h2 (fun t e=>he t (hm2 _ e)) (d:=0) h7;have hh:=jE hs h3 (fun t e=>he t (hm3 _ e)) (d:=xs.length) h8;obtain⟨b,cap,hb⟩:=yQ hs hSk;have hown:=hs.own k _ hSk;have hcap:jh≤cap:=by have:=mE (X':=fun _=>False) hown (fun b hb=>hb.elim) (fun _ hb=>hb);rw[hb] at this;exact(mL this h5 h6).2.1
    rw[hb] at hx;refine⟨_,run a w _ (by rw[hx];exact dP (C.ty hti) hk (C.ty hte) b hl hh h5 hcap),.d _,fun X' hX' hn=>?_⟩;have:=mE hown hX' (hn k (by simp));rw[hb] at this;rw[hsz];exact .d _ _ (mL this h5 h6).1
   ·cases h
  ·cases h
 ·rename_i k m e hk;replace h:=cQ h;obtain⟨en,hen,h⟩:=h;replace h:=aJ h;obtain⟨te,hte,h⟩:=h;split at h
  ·rename_i sz xs;split at h;·rename_i hsz;have hsz:=Nd hsz;obtain⟨hm,h⟩:=h;replace h:=mC h;obtain⟨jl,jh,h,h5,h6,h7,h8⟩:=h;refine⟨_,_,_,h,cr.give (kills:=[k]) (fun _ hk=>hk) (fun j hj=>by simp at hj;subst hj;exact⟨_,hen⟩) fun X0 F w0 p α S a w hs he ho'=>?_⟩;have hSk:=ho' k (by simp) _ hen;have hr:=(h1.to hm1 he).read hs;generalize hx:a.eval x=v at hr;cases hr;have hl:=jE hs h2 (fun t e=>he t (hm2 _ e)) (d:=0) h7;have hh:=jE hs h3 (fun t e=>he t (hm3 _ e)) (d:=xs.length) h8;have hown:=hs.own k _ hSk;refine⟨_,run a w _ (by rw[hx];exact sT (C.ty hti) hk (C.ty hte) _ hl (by rw[hm];exact hh) h5 (by rw[hm];exact h6)),.d _,fun X' hX' hn=>?_⟩;have:=FL hown hX' (hn k (by simp));have hc:=(mL this h5 h6).1;rw[hsz,hm];refine .d _ _ ?_;simpa using hc
   ·cases h
  ·cases h
 ·cases h
end
end Go.Eng
namespace Go.Eng
def K2 (st:AS)(a:AV)(K:D→List Nat→Prop):Prop:=match a with
 |.d x=>K x []|.nl sz=>K (.sl sz []) []|.os k=>iH st k fun e=>match e with|.buf sz xs _=>K (.sl sz xs) [k]|_=>False
 |_=>False
def GQ (st:AS):List AV→(List D→List Nat→Prop)→Prop|[],K=>K [] []|a::l,K=>K2 st a fun d us=>GQ st l fun ds vs=>match us with|[]=>K (d::ds) vs|us=>K (d::ds) (us++vs)
def nM (st:AS)(a:AV)(K:D→List Nat→Prop):Prop:=match a with|.agg cs=>GQ st cs fun ds us=>K (.agg ds) us|a=>K2 st a K
structure IF (st:AS)(a:AV)(d:D)(us:List Nat):Prop where
 ent:∀k,k∈us→∃e,st.ss.own k=some e
 rd:∀w α X X' v,co w α X a v→(∀k,k∈us→∀e,st.ss.own k=some e→lj w α X k e)→(∀b,X' b→X b)→(∀k,k∈us→(α k).nil=false→¬X' (α k).blk)→Rd w X' d v
theorem BA {st:AS}{a:AV}{K:D→List Nat→Prop}(h:K2 st a K):∃d us,K d us∧IF st a d us:=by
 unfold K2 at h;split at h;·exact⟨_,_,h,(fun k hk=>by cases hk),fun w α X X' v hr _ hX _=>hr.dinv.mono fun b o hb hn=>⟨hb,fun h=>hn (hX b h)⟩⟩
 ·exact⟨_,_,h,(fun k hk=>by cases hk),fun w α X X' v hr _ _ _=>by cases hr;exact .slnil _⟩
 ·rename_i k;replace h:=cQ h;obtain⟨e,he,h⟩:=h;split at h
  ·refine⟨_,_,h,fun j hj=>?_,fun w α X X' v hr ho hX hb=>?_⟩;·simp at hj;subst hj;exact⟨_,he⟩
   ·cases hr;exact mE (ho k (by simp) _ he) hX (hb k (by simp))
  ·cases h
 ·cases h
theorem Hv {st:AS}{l:List AV}{K:List D→List Nat→Prop}(h:GQ st l K):∃ds us,K ds us∧ds.length=l.length∧(∀k,k∈us→∃e,st.ss.own k=some e)∧∀(j:Nat)(a:AV)(d:D),l[j]?=some a→ds[j]?=some d→∃vs,IF st a d vs∧∀k,k∈vs→k∈us:=by induction l generalizing K with|nil=>exact⟨[],[],h,rfl,(fun k hk=>by cases hk),fun j a d hj=>by simp at hj⟩;|cons a l ih=>
 obtain⟨d,us,h,h1⟩:=BA h;obtain⟨ds,vs,h,h2,h3,h4⟩:=ih h;have fin:∀ws,(∀k,k∈ws↔k∈us∨k∈vs)→K (d::ds) ws→∃ds us,K ds us∧ds.length=(a::l).length∧(∀k,k∈us→∃e,st.ss.own k=some e)∧∀(j:Nat)(b:AV)(d:D),(a::l)[j]?=some b→ds[j]?=some d→∃vs,IF st b d vs∧∀k,k∈vs→k∈us:=by
  intro ws hws hk;refine⟨_,_,hk,by simp[h2],fun k hk=>?_,fun j b d' hj hd=>?_⟩
  ·rcases (hws k).1 hk with h|h;·exact h1.ent k h
   ·exact h3 k h
  ·cases j with|zero=>simp at hj hd;subst hj hd;exact⟨us,h1,fun k hk=>(hws k).2 (.inl hk)⟩;|succ j=>obtain⟨vs',h5,h6⟩:=h4 j b d' (by simpa using hj) (by simpa using hd);exact⟨vs',h5,fun k hk=>(hws k).2 (.inr (h6 k hk))⟩
 split at h;·exact fin vs (fun k=>by simp) h
 ·exact fin _ (fun k=>by simp) h
theorem iV {st:AS}{a:AV}{K:D→List Nat→Prop}(h:nM st a K):∃d us,K d us∧IF st a d us:=by
 unfold nM at h;split at h;·rename_i cs;obtain⟨ds,us,h,h1,h2,h3⟩:=Hv h;refine⟨_,_,h,h2,fun w α X X' v hr ho hX hb=>?_⟩;cases hr with|agg _ vs hl hc=>
  refine .agg ds vs (by omega) fun j d u hd hu=>?_;obtain⟨a,ha⟩:∃a,cs[j]?=some a:=by
   have:j<cs.length:=by rw[←h1];exact(Nc.1 hd).1
   exact⟨cs[j],by simp[this]⟩
  obtain⟨vs',h4,h5⟩:=h3 j a d ha hd;exact h4.rd w α X X' u (hc j a u ha hu) (fun k hk=>ho k (h5 k hk)) hX fun k hk=>hb k (h5 k hk)
 ·exact BA h
section
variable {C:cq}{n:Nat}{o:Oper}{nm:Nat}{st:AS}{K:KO}
def oa (C:cq)(st:AS)(place:Nat→(Nat×Nat→Prop)→Prop):List (Nat×Operand)→List AV→(List AV→Prop)→Prop|[],cs,K=>K cs|(i,x)::ps,cs,K=>place i fun pt=>aW C.tab pt.2 fun te=>lA C st pt.2 x fun a=>rY a fun new=>match Nat.beq new.length te.size with|true=>sM cs pt.1 new fun r=>oa C st place ps r K|false=>False
theorem mb {place:Nat→(Nat×Nat→Prop)→Prop}{pl:Nat→Option (Nat×Nat)}{ps:List (Nat×Operand)}{cs:List AV}{K:List AV→Prop}(hpl:∀i K,place i K→∃pt:Nat×Nat,K pt∧∀te,look C.tab pt.2=some te→pl i=some (pt.1,te.size))(hmem:∀i x,(i,x)∈ps→x∈o.op.operands)(h:oa C st place ps cs K):∃r,K r∧r.length=cs.length∧(∀X0 F w0 p α S a w,dn C.G X0 F w0 n p α S a w→(∀t,Operand.tmp t∈o.op.operands→∀av,st.ss.env t=some av→S.env t=some av)→(∀c,c∈cs→c.ok p)→∀vs,oG w α (XX α S.own X0) cs vs→∃vs',Instr.fill pl vs (ps.map fun(i,x)=>(i,a.eval x))=some vs'∧oG w α (XX α S.own X0) r vs'∧∀c,c∈r→c.ok p):=by induction ps generalizing cs with|nil=>exact⟨cs,h,rfl,fun X0 F w0 p α S a w _ _ hok vs hA=>⟨vs,rfl,hA,hok⟩⟩;|cons y ps ih=>
 obtain⟨i,x⟩:=y;simp only[oa] at h;obtain⟨pt,h,hp⟩:=hpl i _ h;replace h:=aJ h;obtain⟨te,hte,h⟩:=h;replace h:=gf h;obtain⟨av,h1,h⟩:=h;replace h:=lZ h;obtain⟨new,h,h2⟩:=h;split at h
 ·rename_i hlen;have hlen:=Nd hlen;replace h:=rG h;obtain⟨r,h,h3,h4,h5⟩:=h;obtain⟨r',h,h6,h7⟩:=ih (fun i x hx=>hmem i x (Nv _ hx)) h;refine⟨r',h,by omega,fun X0 F w0 p α S a w hs he hok vs hA=>?_⟩;have hx:=h1.to (hmem i x List.mem_cons_self) he;have hA':=CJ hA h2 (hx.read hs) h3 h4 h5;have hok':∀c,c∈r→c.ok p:=by
   intro c hc;obtain⟨j,hj⟩:=List.mem_iff_getElem?.1 hc;rw[h5 j] at hj;split at hj;·exact h2.ok p (hx.ok hs) c (Ni hj)
   ·exact hok c (Ni hj)
  obtain⟨vs',h8,h9⟩:=h7 X0 F w0 p α S a w hs he hok' _ hA';refine⟨vs',?_,h9⟩;have hsz:=(h2.rd w α _ _ (hx.read hs)).1;simp only[Nw,Instr.fill,hp te hte];rw[if_neg];·exact h8
  ·simp only[ne_eq,Bool.or_eq_true,decide_eq_true_eq];have:=hA.1;simp only[not_or,Decidable.not_not,Nat.not_lt];omega
 ·cases h
def yX (C:cq)(st:AS)(T:TypeId)(ps:List (Nat×Operand))(K:AV→Prop):Prop:=aW C.tab T fun ti=>match ti.kd with|.struct os=>oa C st (fun i K=>nE os i K) ps ti.zero fun r=>kN r K|.array _ e=>aW C.tab e fun te=>oa C st (fun i K=>K (i*te.size,e)) ps ti.zero fun r=>kN r K|_=>False
theorem C1 {P:Program}{os:List (Nat×Nat)}:∀{fs:List Field},lE P os fs=true→∃r,fs.mapM (fun f=>(P.info? f.type).map fun i=>(f.offset,i.size))=some r∧∀(j:Nat)(x:Nat×Nat),os[j]?=some x→∃i,P.info? x.2=some i∧r[j]?=some (x.1,i.size):=by induction os with|nil=>intro fs h;cases fs<;>simp[lE] at h;exact⟨[],by simp,fun j x hx=>by simp at hx⟩;|cons o os ih=>intro fs h;cases fs with|nil=>simp[lE] at h;|cons f fs=>
 simp only[lE,Bool.and_eq_true] at h;obtain⟨⟨⟨h1,h2⟩,h3⟩,h4⟩:=h;obtain⟨r,h5,h6⟩:=ih h4;split at h3;·rename_i i hi;refine⟨(f.offset,i.size)::r,by simp[hi,h5],fun j x hx=>?_⟩;cases j with
 |zero=>simp at hx;subst hx;exact⟨i,by rw[Nd h2];exact hi,by simp[Nd h1]⟩;|succ j=>simpa using h6 j x (by simpa using hx)
 ·cases h3
theorem Co {T:TypeId}{ps:Array (Nat×Operand)}(ho:o.op=.build T ps)(h:yX C st T ps.toList fun r=>K r [] []):∃out upd rd,K out upd rd∧cr C n o nm st rd out upd:=by
 have hmem:∀i x,(i,x)∈ps.toList→x∈o.op.operands:=by intro i x hx;rw[ho];simp only[Op.operands,List.mem_toArray];exact List.mem_map.2 ⟨(i,x),hx,rfl⟩
 unfold yX at h;replace h:=aJ h;obtain⟨ti,hti,h⟩:=h;have hty:=C.ty hti;obtain⟨⟨it,hit,hits,_,z,hz,hzl⟩,_⟩:=C.ty hti;have fin:∀(pl:Nat→Option (Nat×Nat))(r:List AV),(∀(parts:List (Nat×Value)) cells,Instr.fill pl z.cells parts=some cells→C.P.built T parts=some cells)→(∀X0 F w0 p α S a w,dn C.G X0 F w0 n p α S a w→(∀t,Operand.tmp t∈o.op.operands→∀av,st.ss.env t=some av→S.env t=some av)→(∀c,c∈ti.zero→c.ok p)→∀vs,oG w α (XX α S.own X0) ti.zero vs→∃vs',Instr.fill pl vs (ps.toList.map fun(i,x)=>(i,a.eval x))=some vs'∧oG w α (XX α S.own X0) r vs'∧∀c,c∈r→c.ok p)→kN r (fun r=>K r [] [])→∃out upd rd,K out upd rd∧cr C n o nm st rd out upd:=by intro pl r hbuilt hr hk;obtain⟨av,hk,hok,hrd⟩:=lM hk;refine⟨_,_,_,hk,cr.pure fun X0 F w0 p α S a w hs he _=>?_⟩;obtain⟨vs',h1,h2,h3⟩:=hr X0 F w0 p α S a w hs he (KX hzl) z.cells (kL hzl);refine⟨.agg vs',?_,hrd w α _ vs' h2.1 h2.2,hok p h3⟩;have:=run_build (P:=C.P) w T (ps.map fun(i,x)=>(i,a.eval x)) vs' (by rw[Array.toList_map];exact hbuilt _ _ h1);simp only[execOp,ho,Sem.run_bind,this,Result.andThen_ok];rfl
 split at h;·rename_i os hk;obtain⟨fs,hu,hB⟩:=l9 hty hk;obtain⟨places,hpl,hpl2⟩:=C1 hB;obtain⟨r,h,_,hr⟩:=mb (n:=n) (o:=o) (pl:=fun i=>places.toArray[i]?) (fun i K hK=>by obtain⟨x,h1,h2⟩:=fD hK;refine⟨x,h2,fun te hte=>?_⟩;obtain⟨ii,h3,h4⟩:=hpl2 i x h1;obtain⟨⟨i2,h5,h6,_⟩,_⟩:=C.ty hte;rw[h3] at h5;cases h5;simp[h4,h6]) hmem h;refine fin _ r (fun parts cells hf=>?_) hr h;simp only[Program.built,hit,hu,hz,hpl];exact hf
 ·rename_i m e hk;have hu:=lm hty hk;replace h:=aJ h;obtain⟨te,hte,h⟩:=h;obtain⟨⟨ie,hie,hies,_⟩,_⟩:=C.ty hte;obtain⟨r,h,_,hr⟩:=mb (n:=n) (o:=o) (pl:=fun i=>some (i*ie.size,ie.size)) (fun i K hK=>by refine⟨(i*te.size,e),hK,fun te' hte'=>?_⟩;rw[hte] at hte';cases hte';simp[hies]) hmem h;refine fin _ r (fun parts cells hf=>?_) hr h;simp only[Program.built,hit,hu,hz,hie];exact hf
 ·cases h
def kO (sz:Nat)(agg:Bool):Nat→List D→(List D→Prop)→Prop|0,[],K=>K []|0,_::_,_=>False|m+1,l,K=>match agg with|true=>iX l 0 sz fun x=>dropK sz l fun r=>kO sz agg m r fun ds=>K (.agg x::ds)|false=>match l with|x::r=>kO sz agg m r fun ds=>K (x::ds)|[]=>False
 where
  dropK : Nat → List D → (List D → Prop) → Prop
  | 0, l, K => K l
  | j + 1, _ :: l, K => dropK j l K
  | _ + 1, [], _ => False
theorem DC {j:Nat}{l:List D}{K:List D→Prop}(h:kO.dropK j l K):K (l.drop j)∧j≤l.length:=by induction j generalizing l with|zero=>exact⟨h,by omega⟩;|succ j ih=>cases l with|nil=>cases h;|cons x l=>obtain⟨h1,h2⟩:=ih h;exact⟨h1,by simp;omega⟩
theorem ql {sz:Nat}{agg:Bool}{m:Nat}{l:List D}{K:List D→Prop}(h0:∀d,d∈l→d.one=true)(h1:agg=false→sz=1)(h:kO sz agg m l K):∃ds,K ds∧ds.length=m∧l.length=m*sz∧(∀(j:Nat)(x:D),ds[j]?=some x→x.wd sz)∧∀(j i:Nat)(x c:D),ds[j]?=some x→x.cells[i]?=some c→l[j*sz+i]?=some c:=by induction m generalizing l K with
 |zero=>cases l with|nil=>exact⟨[],h,rfl,by simp,(fun j x hx=>by simp at hx),fun j i x c hx=>by simp at hx⟩;|cons=>simp only[kO] at h
 |succ m ih=>
 simp only[kO] at h;split at h
 ·replace h:=ll h;obtain⟨x,hx1,hx2,h⟩:=h;replace h:=DC h;obtain⟨h,hle⟩:=h;obtain⟨ds,h,h2,h3,h4,h5⟩:=ih (fun d hd=>h0 d (List.mem_of_mem_drop hd)) h;refine⟨_,h,by simp[h2],?_,fun j y hy=>?_,fun j i y c hy hc=>?_⟩;·simp at h3;rw[Nat.add_mul];omega
  ·cases j with|zero=>simp at hy;subst hy;refine⟨hx1,fun c hc=>?_⟩;obtain⟨i,hi⟩:=List.mem_iff_getElem?.1 hc;have:=hx2 i c hi;exact h0 c (Ni this);|succ j=>exact h4 j y (by simpa using hy)
  ·cases j with|zero=>simp at hy;subst hy;simpa using hx2 i c hc;|succ j=>have:=h5 j i y c (by simpa using hy) hc;rw[List.getElem?_drop] at this;rw[←this];congr 1;rw[Nat.add_mul];omega
 ·obtain rfl:=h1 rfl;cases l with|nil=>cases h;|cons x r=>
   obtain⟨ds,h,h2,h3,h4,h5⟩:=ih (fun d hd=>h0 d (Nv _ hd)) h;have hx1:=h0 x List.mem_cons_self;have hx:=fR hx1;refine⟨_,h,by simp[h2],by simp at h3⊢;omega,fun j y hy=>?_,fun j i y c hy hc=>?_⟩;·cases j with|zero=>simp at hy;subst hy;unfold D.wd;rw[hx];exact⟨rfl,fun c hc=>by simp at hc;subst hc;exact hx1⟩;|succ j=>exact h4 j y (by simpa using hy)
   ·cases j with
    |zero=>simp at hy;subst hy;rw[hx] at hc;cases i with|zero=>simpa using hc;|succ i=>simp at hc
    |succ j=>have:=h5 j i y c (by simpa using hy) hc;simp only[Nat.mul_one] at this⊢;rw[show j+1+i=(j+i)+1 by omega];simpa using this
def Fw:Nat→(List AV→Prop)→Prop|0,K=>K []|m+1,K=>Fw m fun l=>K (.any::l)
theorem CU {m:Nat}{K:List AV→Prop}(h:Fw m K):K (List.replicate m .any):=by induction m generalizing K with|zero=>exact h;|succ m ih=>exact ih (K:=fun l=>K (.any::l)) h
def xx:List AV→(List D→Prop)→Prop|[],K=>K []|.d x::l,K=>xx l fun r=>K (x::r)|.nl s::l,K=>xx l fun r=>K (.sl s []::r)|_::_,_=>False
theorem CE {l:List AV}{K:List D→Prop}(h:xx l K):∃ds,ds.length=l.length∧(∀(i:Nat)(y:D),ds[i]?=some y→l[i]?=some (.d y)∨∃s,l[i]?=some (.nl s)∧y=.sl s [])∧K ds:=by induction l generalizing K with|nil=>exact⟨[],rfl,(fun i y hy=>by simp at hy),h⟩;|cons a l ih=>
 have go:∀x,(a=.d x∨∃s,a=.nl s∧x=.sl s [])→xx l (fun r=>K (x::r))→∃ds,ds.length=(a::l).length∧(∀(i:Nat)(y:D),ds[i]?=some y→(a::l)[i]?=some (.d y)∨∃s,(a::l)[i]?=some (.nl s)∧y=.sl s [])∧K ds:=by intro x hx h;obtain⟨ds,h1,h2,h3⟩:=ih h;refine⟨x::ds,by simp[h1],fun i y hy=>?_,h3⟩;cases i with
 |zero=>
 simp at hy;subst hy;rcases hx with rfl|⟨s,rfl,rfl⟩;·exact .inl rfl
 ·exact .inr ⟨s,rfl,rfl⟩;|succ i=>simpa using h2 i y (by simpa using hy)
 cases a with|d x=>exact go x (.inl rfl) h;|nl s=>exact go _ (.inr ⟨s,rfl,rfl⟩) h;|_=>exact h.elim
def K6 (C:cq)(st:AS)(nm:Nat)(T:TypeId)(len:Nat)(ps:List (Nat×Operand))(K:KO):Prop:=aW C.tab T fun ti=>match ti.kd with
 |.slice e=>aW C.tab e fun te=>match len with
  |0=>match ps with|[]=>K (.os (16*nm)) [(16*nm,some (.buf te.size []))] []|_=>False
  |len=>match Nat.ble 1 (len*te.size),Nat.ble (len*te.size) 16777216 with
   |true,true=>Fw (len*te.size) fun cs=>oa C st (fun i K=>K (i*te.size,e)) ps cs fun r=>xx r (fun l=>match te.agg,l.all D.one with
    |true,true=>kO te.size true len l fun ds=>K (.os (16*nm)) [(16*nm,some (.buf te.size ds (some e)))] []|false,true=>match Nat.beq te.size 1 with|true=>kO te.size false len l fun ds=>K (.os (16*nm)) [(16*nm,some (.buf te.size ds (some e)))] []|_=>False
    |_,_=>False)|_,_=>False
 |_=>False
theorem Ji {T:TypeId}{len:Nat}{ps:Array (Nat×Operand)}(ho:o.op=.buildSlice T len ps)(h:K6 C st nm T len ps.toList K):∃out upd rd,K out upd rd∧cr C n o nm st rd out upd:=by
 have hmem:∀i x,(i,x)∈ps.toList→x∈o.op.operands:=by intro i x hx;rw[ho];simp only[Op.operands,List.mem_toArray];exact List.mem_map.2 ⟨(i,x),hx,rfl⟩
 unfold K6 at h;replace h:=aJ h;obtain⟨ti,hti,h⟩:=h;split at h
 ·rename_i e hk;have hu:=cM (C.ty hti) hk;replace h:=aJ h;obtain⟨te,hte,h⟩:=h;obtain⟨⟨ie,hie,hies,_,z,hz,hzl⟩,_⟩:=C.ty hte;split at h
  ·split at h
   ·rename_i hps;refine⟨_,_,_,h,cr.make (kills:=[]) (fun _ hk=>by cases hk) (.inl rfl) fun X0 F w0 p α S a w hs he _=>?_⟩;refine⟨w.alloc (.cells #[] e),.slice (some ⟨w.heap.size,0,none⟩) 0 0,#[],e,(0,0),0,⟨rfl,rfl,rfl,rfl,Nat.le_refl _,by simp,⟨Nat.le_refl _,fun o ho=>by simp⟩,(fun j x hx=>by simp at hx),?_,(fun x hx=>by cases hx),?_,rfl,fun U h=>by cases h⟩,?_⟩;·intro j m c hc;simp[aS.cell] at hc
    ·intro sz xs _ h;cases h;rfl
    ·have hps':ps=#[]:=by cases ps;simp_all
     simp[execOp,ho,Instr.buildSlice,underlying,hu,sizeOf,typeInfo,hie,hps',Instr.fill,newRow];exact congrArg (fun x=>w.alloc (.cells x e)) (Array.eq_empty_of_size_eq_zero (by simp))
   ·cases h
  ·split at h
   ·rename_i hb1 hb2;have hb1:=Nat.le_of_ble_eq_true hb1;have hb2:=Nat.le_of_ble_eq_true hb2;replace h:=CU h;obtain⟨r,h,hrl,hr⟩:=mb (n:=n) (o:=o) (pl:=fun i=>some (i*ie.size,ie.size)) (fun i K hK=>by refine⟨(i*te.size,e),hK,fun te' hte'=>?_⟩;rw[hte] at hte';cases hte';simp[hies]) hmem h;obtain⟨l,hlr,hnl,h8⟩:=CE h
    ·have fin:∀ds,K (.os (16*nm)) [(16*nm,some (.buf te.size ds (some e)))] []→ds.length=len→l.length=len*te.size→(∀(j:Nat)(x:D),ds[j]?=some x→x.wd te.size)→(∀(j i:Nat)(x c:D),ds[j]?=some x→x.cells[i]?=some c→l[j*te.size+i]?=some c)→∃out upd rd,K out upd rd∧cr C n o nm st rd out upd:=by
      intro ds hK h1 h2 h3 h4;refine⟨_,_,_,hK,cr.make (kills:=[]) (fun _ hk=>by cases hk) (.inl rfl) fun X0 F w0 p α S a w hs he _=>?_⟩;obtain⟨vs',h5,h6,_⟩:=hr X0 F w0 p α S a w hs he (fun c hc=>by rw[List.eq_of_mem_replicate hc];exact .any)
       ((Array.range (len*ie.size)).map (z.cells[·%z.cells.size]!)) ⟨by simp[hies],fun j c v hc _=>by have:=Ni hc;rw[List.eq_of_mem_replicate this];exact .any v⟩;have hrun:=run_buildSlice (P:=C.P) w T e len (ps.map fun(i,x)=>(i,a.eval x)) vs' ie z hu hie hz (by rw[hies];omega) (by rw[hies];omega) (by rw[Array.toList_map];exact h5);refine⟨w.alloc (.cells vs' e),.slice (some ⟨w.heap.size,0,none⟩) len len,vs',e,(0,0),len,⟨rfl,rfl,rfl,rfl,by simp[aS.len,h1],?_,⟨Nat.le_refl _,fun o ho=>by simp⟩,h3,?_,(fun x hx=>by cases hx),?_,rfl,fun U h=>by cases h;exact⟨rfl,fun cs V h=>by cases h⟩⟩,?_⟩;·have:=h6.1;simp only[aS.sz];rw[←hlr] at this;omega
      ·intro j m c hc;simp only[aS.cell,Nu,Nk] at hc;obtain⟨x,hx,y,hy,rfl⟩:=hc;have h7:=h4 j m x y hx hy;have hlt:j*te.size+m<vs'.size:=by have:=(Nc.1 h7).1;have:=h6.1;rw[←hlr] at this;omega
       refine⟨vs'[j*te.size+m],by simp[aS.sz,hlt],?_⟩;rcases hnl _ y h7 with h9|⟨s,h9,rfl⟩;·exact h6.2 (j*te.size+m) (.d y) _ h9 (by simp[hlt])
       ·have h10:=h6.2 (j*te.size+m) (.nl s) _ h9 (show vs'[j*te.size+m]?=some vs'[j*te.size+m] by simp[hlt]);generalize vs'[j*te.size+m]=v9 at h10;cases h10;exact .d _ _ (.slnil s)
      ·intro sz xs _ h;cases h;rw[h1]
      ·simp only[execOp,ho,Sem.run_bind,hrun,Result.andThen_ok];rfl
     split at h8;·rename_i hall;obtain⟨ds,hK,h1,h2,h3,h4⟩:=ql (List.all_eq_true.1 hall) (fun hf=>by cases hf) h8;exact fin ds hK h1 h2 h3 h4
     ·rename_i hall;split at h8;·rename_i hb;obtain⟨ds,hK,h1,h2,h3,h4⟩:=ql (List.all_eq_true.1 hall) (fun _=>Nd hb) h8;exact fin ds hK h1 h2 h3 h4
      ·cases h8
     ·cases h8
   ·cases h
 ·cases h
end
end Go.Eng
namespace Go.Eng
open Go.Lib (bytesCells bytesWorld bytesWorld_at_old bytesWorld_at_new bytesWorld_size run_convert_string_bytes)
def aD (l:List UInt8):List D:=l.map fun c=>.i .u8 (c.toNat:Int)
structure z9 (ds:List D)(K:List UInt8→Prop):Prop where out:∃l,ds=aD l∧K l
theorem cy {ds:List D}{K:List UInt8→Prop}(l:List UInt8)(h:ds=aD l)(h1:K l):z9 ds K:=⟨l,h,h1⟩
def u8K (C:cq)(T:TypeId)(K:Prop):Prop:=aW C.tab T fun ti=>match ti.kd with|.slice e=>aW C.tab e fun te=>(match te.kd,te.size with|.int .u8,1=>K|_,_=>False)|_=>False
theorem BD {C:cq}{T:TypeId}{K:Prop}(h:u8K C T K):K∧∃e te,look C.tab e=some te∧te.size=1∧C.P.underlying T=some (.slice e)∧C.P.underlying e=some (.int .u8):=by
 unfold u8K at h;replace h:=aJ h;obtain⟨ti,hti,h⟩:=h;split at h
 ·rename_i e hk;replace h:=aJ h;obtain⟨te,hte,h⟩:=h;split at h;·rename_i hk2 hsz;exact⟨h,e,te,hte,hsz,cM (C.ty hti) hk,vS (C.ty hte) hk2⟩
  ·cases h
 ·cases h
section
variable {C:cq}{n:Nat}{o:Oper}{nm:Nat}{st:AS}{K:KO}
def MD (C:cq)(nm:Nat)(S T:TypeId)(a:AV)(K:KO):Prop:=match a with|.d (.s l)=>aW C.tab S fun _=>u8K C T (K (.os (16*nm)) [(16*nm,some (.buf 1 (aD l)))] [])|_=>False
theorem fB {l:List UInt8}{j:Nat}{d:D}(h:(aD l)[j]?=some d):∃c,l[j]?=some c∧d=.i .u8 (c.toNat:Int):=by simp only[aD,List.getElem?_map,Nk] at h;obtain⟨c,h1,h2⟩:=h;exact⟨c,h1,h2.symm⟩
theorem pd (w:World)(e:TypeId)(s:ByteArray):(bytesWorld w e s).heap=w.heap.push (.cells (bytesCells w e s) e ((bytesCells w e s).size,(bytesCells w e s).size+1)):=by
 apply Array.ext_getElem?;intro i;rcases Nat.lt_trichotomy i w.heap.size with h|h|h;·rw[bytesWorld_at_old w e s i h,Array.getElem?_push_lt h];simp[h]
 ·subst h;rw[bytesWorld_at_new];simp
 ·rw[Array.getElem?_eq_none (by rw[bytesWorld_size];omega),Array.getElem?_eq_none (by simp;omega)]
theorem It {S T:TypeId}{x:Operand}(ho:o.op=.convert S T x)(h:fF st x fun a=>MD C nm S T a K):∃out upd rd,K out upd rd∧cr C n o nm st rd out upd:=by
 replace h:=bx h;obtain⟨va,h1,h⟩:=h;have hmem:x∈o.op.operands:=by rw[ho];simp[Op.operands]
 unfold MD at h;split at h
 ·rename_i l;replace h:=aJ h;obtain⟨tS,htS,h⟩:=h;replace h:=BD h;obtain⟨h,e,te,hte,hsz,hu,hue⟩:=h;obtain⟨_,uS,huS,_⟩:=C.ty htS;refine⟨_,_,_,h,cr.make (kills:=[]) (fun _ hk=>by cases hk) (.inl rfl) fun X0 F w0 p α S' a w hs he _=>?_⟩;have hx:=((h1.to hmem he).read hs).dinv.sinv;have hrun:=run_convert_string_bytes (P:=C.P) w S T e ⟨l.toArray⟩ huS hu hue;have hcap:l.length≤grownCap w (ByteArray.mk l.toArray).size 0 e:=by rw[iv];simp[grownCap,Question.cut]
  have hcsz:(bytesCells w e ⟨l.toArray⟩).size=grownCap w (ByteArray.mk l.toArray).size 0 e:=by simp only[bytesCells,Array.size_append,Array.size_map,Array.size_replicate,List.size_toArray];rw[iv] at hcap⊢;omega
  refine⟨bytesWorld w e ⟨l.toArray⟩,.slice (some ⟨w.heap.size,0,none⟩) (ByteArray.mk l.toArray).size (grownCap w (ByteArray.mk l.toArray).size 0 e),_,e,_,grownCap w (ByteArray.mk l.toArray).size 0 e,⟨pd w e _,rfl,rfl,rfl,by simpa[aS.len,aD] using hcap,by simp only[aS.sz];omega,⟨Nat.le_succ _,fun o ho=>by simp only[aS.sz] at ho;omega⟩,?_,?_,(fun x hx=>by cases hx),?_,rfl,fun U h=>by cases h⟩,?_⟩;·intro j d hd;obtain⟨c,_,rfl⟩:=fB hd;exact⟨rfl,fun c hc=>by simp[D.cells] at hc;subst hc;rfl⟩
  ·intro j m c hc;simp only[aS.cell,Nu,Nk] at hc;obtain⟨d,hd,y,hy,rfl⟩:=hc;obtain⟨c,hc,rfl⟩:=fB hd;cases m with|zero=>simp[D.cells] at hy;subst hy;refine⟨.int .u8 (c.toNat:Int),?_,.d _ _ (.i _ _)⟩;have hlt:j<l.length:=(Nc.1 hc).1;simp only[aS.sz,bytesCells,Nat.mul_one,Nat.add_zero];rw[Array.getElem?_append_left (by simpa using hlt)];simp[hc];|succ m=>simp[D.cells] at hy
  ·intro sz xs _ h;cases h;simp[iv,aD]
  ·simp only[execOp,ho,Sem.run_bind,hx,hrun,Result.andThen_ok];rfl
 ·cases h
theorem yC {w:World}{X:Nat→Prop}{l:List UInt8}{v:Value}(h:Rd w X (.sl 1 (aD l)) v):(l=[]∧∃a c,v=.slice a 0 c)∨∃b off cap,v=.slice (some ⟨b,off,none⟩) l.length cap∧∀i,i<l.length→w.cell? ⟨b,off+i,none⟩=some (.int .u8 ((l.map fun c=>(c.toNat:Int)).getD i 0)):=by generalize hx:aD l=xs at h;cases h with
 |slnil=>left;refine⟨?_,none,0,rfl⟩;cases l with|nil=>rfl;|cons=>simp[aD] at hx
 |sle _ a cap=>left;refine⟨?_,some a,cap,rfl⟩;cases l with|nil=>rfl;|cons=>simp[aD] at hx
 |sl _ _ blk off m cap arr T fz f hh hX hl hc hw h1 h2=>
 right;subst hx;refine⟨blk,off,cap,by rw[←hl];simp[aD],fun i hi=>?_⟩;have hg:(aD l)[i]?=some (.i .u8 (l[i].toNat:Int)):=by simp[aD,hi]
 have h3:=h1 i 0 _ (.i .u8 (l[i].toNat:Int)) hg rfl;have h4:=(h2 i 0 _ (.i .u8 (l[i].toNat:Int)) hg rfl).iinv;rw[eP hh];simp only[Nat.mul_one,Nat.add_zero] at h3;rw[h3,h4];simp[List.getD_eq_getElem?_getD,hi]
def L7 (C:cq)(st:AS)(S T:TypeId)(a:AV)(K:KO):Prop:=aW C.tab T fun ti=>match ti.kd with
 |.str=>u8K C S (match a with
 |.d (.sl 1 ds)=>z9 ds fun l=>K (.d (.s l)) [] []|.os k=>iH st k fun e=>match e with|.buf 1 ds _=>z9 ds fun l=>K (.d (.s l)) [] [k]|_=>False
 |.nl _=>K (.d (.s [])) [] []|_=>False)|_=>False
theorem xj (l:List UInt8):strOfNums (l.map fun c=>(c.toNat:Int))=⟨l.toArray⟩:=by
 apply ByteArray.ext;apply Array.ext';rw[strOfNums_data];simp only[List.map_map];conv=>rhs;rw[←List.map_id l]
 apply List.map_congr_left;intro c _;simp[UInt8.ofNat_toNat]
theorem IL {S T:TypeId}{x:Operand}(ho:o.op=.convert S T x)(h:fF st x fun a=>L7 C st S T a K):∃out upd rd,K out upd rd∧cr C n o nm st rd out upd:=by
 replace h:=bx h;obtain⟨va,h1,h⟩:=h;have hmem:x∈o.op.operands:=by rw[ho];simp[Op.operands]
 unfold L7 at h;replace h:=aJ h;obtain⟨ti,hti,h⟩:=h;split at h
 ·rename_i hk;have huT:=lu (C.ty hti) hk;replace h:=BD h;obtain⟨h,e,te,hte,hsz,hu,hue⟩:=h;have run:∀(w:World)(X:Nat→Prop)(l:List UInt8)(v:Value),Rd w X (.sl 1 (aD l)) v→(convert S T v).run C.P w=.ok (.string ⟨l.toArray⟩) w:=by
   intro w X l v hr;rcases yC hr with⟨rfl,a,c,rfl⟩|⟨b,off,cap,rfl,hc⟩;·cases a with|none=>rw[run_convert_bytes_nil (P:=C.P) w S e hu hue 0 c T huT];rfl;|some a=>have:=run_convert_bytes_string (P:=C.P) w S T e (some a) 0 c hu hue huT;rw[this];exact rfl
   ·rw[run_convert_bytes_arg (P:=C.P) w S e hu hue b off l.length cap (l.map fun c=>(c.toNat:Int)) (by simp) hc T huT,xj]
  split at h;·rename_i ds;obtain⟨l,rfl,h⟩:=h;refine⟨_,_,_,h,cr.pure fun X0 F w0 p α S' a w hs he _=>?_⟩;exact⟨_,by simp only[execOp,ho,Sem.run_bind,run w _ l _ ((h1.to hmem he).read hs).dinv,Result.andThen_ok];rfl,.d _ _ (.s _),.d _⟩
  ·rename_i k;replace h:=cQ h;obtain⟨en,hen,h⟩:=h;split at h;·obtain⟨l,rfl,h⟩:=h;refine⟨_,_,_,h,cr.pure fun X0 F w0 p α S' a w hs he ho'=>?_⟩;have hr:=(h1.to hmem he).read hs;generalize hv:a.eval x=v at hr;cases hr;have:=mE (X':=fun _=>False) (hs.own k _ (ho' k (by simp) _ hen)) (fun _ h=>h.elim) (fun _ h=>h);exact⟨_,by simp only[execOp,ho,Sem.run_bind,hv,run w _ l _ this,Result.andThen_ok];rfl,.d _ _ (.s _),.d _⟩
   ·cases h
  ·refine⟨_,_,_,h,cr.pure fun X0 F w0 p α S' a w hs he ho'=>?_⟩;have hr:=(h1.to hmem he).read hs;generalize hv:a.eval x=v at hr;cases hr;exact⟨_,by simp only[execOp,ho,Sem.run_bind,hv,run w (fun _=>False) [] _ (.slnil 1),Result.andThen_ok];rfl,.d _ _ (.s _),.d _⟩
  ·cases h
 ·cases h
end
end Go.Eng
