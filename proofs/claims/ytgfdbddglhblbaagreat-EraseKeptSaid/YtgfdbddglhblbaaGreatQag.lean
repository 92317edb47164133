/- A part of the proof of what is stated of the erasing of a mirror. -/
import Derived.Test.YtgfdbddglhblbaaGreatQaf
import Derived.Defers
set_option maxHeartbeats 64000000
namespace Go.Eng
open Go.RowKit (Below)
def db:Nat→List AV→List (Nat×AV)|_,[]=>[]|i,a::l=>(i,a)::db (i+1) l
theorem fS : ∀ (as : List AV) (i t : Nat) (av : AV), look (db i as) t = some av → i ≤ t ∧ as[t - i]? = some av
  | [], i, t, av, h => by simp [db, look] at h
  | a :: as, i, t, av, h => by
    simp only [db, look] at h
    split at h
    · rename_i hb
      have := Nd hb
      subst this
      cases h
      exact ⟨Nat.le_refl _, by simp⟩
    · obtain ⟨h1, h2⟩ := fS as (i + 1) t av h
      refine ⟨by omega, ?_⟩
      rw [show t - i = (t - (i + 1)) + 1 by omega]
      simpa using h2
theorem rr : ∀ (as : List AV) (i j : Nat) (av : AV), as[j]? = some av → look (db i as) (i + j) = some av
  | [], i, j, av, h => by simp at h
  | a :: as, i, 0, av, h => by simp at h; subst h; simp [db, look]
  | a :: as, i, j + 1, av, h => by
    have := rr as (i + 1) j av (by simpa using h)
    simp only [db, look]
    split
    · rename_i hb
      have := Nd hb
      omega
    · rw [show i + (j + 1) = i + 1 + j by omega]; exact this
def kB (us:Array Value):Value:=if h:us.size=1 then us[0] else .tuple us
def uX (C:cq)(f:FuncId):Prop:=∃fn,C.P.funcs[f]?=some fn∧(fn.name== "runtime.NumGoroutine")=false∧fn.body.isNone=false
def EH (C:cq)(CA:Array Value→World→(Ending→World→Prop)→Prop)(f:FuncId)(bs:List AV)(own:List (Nat×Option aS))(rs:List AV)(own':List (Nat×Option aS)):Prop:=uX C f∧∀(w:World)(X:Nat→Prop)(F:Fr)(α:Nat→dh)(vs:Array Value),(∀k l,F.fix k=some l→k<16)→dn C.G X F w bs.length (b9 ⟨db 0 bs,own,1⟩) α (AS.ss ⟨db 0 bs,own,1⟩) ⟨vs,[]⟩ w→CA vs w fun e w'=>∃α' us,e=.returned (kB us)∧dn C.G X F w rs.length (b9 ⟨db 0 rs,own',2⟩) α' (AS.ss ⟨db 0 rs,own',2⟩) ⟨us,[]⟩ w'
def uE (P:Program)(f:FuncId)(vs:Array Value)(w:World)(R:Ending→World→Prop):Prop:=Calls P f vs w R∧∀u,CallsD P f vs u w fun e u' w'=>u'=u∧R e w'
theorem uE.mono {P:Program}{f:FuncId}{vs:Array Value}{w:World}{R R':Ending→World→Prop}(h:uE P f vs w R)(hr:∀e w',R e w'→R' e w'):uE P f vs w R':=⟨h.1.mono hr,fun u=>(h.2 u).mono fun e _ w' hh=>⟨hh.1,hr e w' hh.2⟩⟩
def aH (C:cq)(f:FuncId)(bs:List AV)(own:List (Nat×Option aS))(rs:List AV)(own':List (Nat×Option aS)):Prop:=EH C (Calls C.P f) f bs own rs own'
def oJ (C:cq)(f:FuncId)(bs:List AV)(own:List (Nat×Option aS))(rs:List AV)(own':List (Nat×Option aS)):Prop:=EH C (uE C.P f) f bs own rs own'
theorem oJ.toH {C:cq}{f:FuncId}{bs:List AV}{own:List (Nat×Option aS)}{rs:List AV}{own':List (Nat×Option aS)}(h:oJ C f bs own rs own'):aH C f bs own rs own':=⟨h.1,fun w X F α vs hF hs=>(h.2 w X F α vs hF hs).1⟩
def rn (ρ:List (Nat×Nat))(nm k:Nat):Nat:=match Nat.blt k 16 with|true=>dX ρ k|false=>16*nm+(k-16)
def rnK (keys:List Nat)(ρ:List (Nat×Nat))(nm k:Nat)(K:Nat→Prop):Prop:=match Nat.blt k 16 with
 |true=>match yS keys k with|true=>(match dX ρ k with|0=>K 0|m+1=>K (m+1))|false=>False
 |false=>match Nat.blt k 32 with|true=>(match 16*nm+(k-16) with|0=>K 0|m+1=>K (m+1))|false=>False
theorem uI {keys:List Nat}{ρ:List (Nat×Nat)}{nm k:Nat}{K:Nat→Prop}(h:rnK keys ρ nm k K):K (rn ρ nm k)∧((k<16∧k∈keys)∨(16≤k∧k<32)):=by
 unfold rnK at h;unfold rn;split at h
 ·rename_i hb;have h1:=gV hb;split at h
  ·rename_i hk;refine⟨?_,.inl ⟨h1,mW.1 hk⟩⟩;split at h;·rename_i h0;simpa[h0] using h
   ·rename_i m h0;simpa[h0] using h
  ·cases h
 ·rename_i hb;split at h
  ·rename_i hb2;have h1:=gV hb2;have h2:¬k<16:=by
    intro hlt;have:Nat.blt k 16=true:=by simp[Nat.blt];omega
    rw[this] at hb;cases hb
   refine⟨?_,.inr ⟨by omega,h1⟩⟩;split at h;·rename_i h0;simpa[h0] using h
   ·rename_i m h0;simpa[h0] using h
  ·cases h
def AV.rn0 (ρ:List (Nat×Nat))(nm:Nat):AV→AV|.op k i j=>.op (rn ρ nm k) i j|.os k=>.os (rn ρ nm k)|a=>a
def AV.rn1 (ρ : List (Nat × Nat)) (nm : Nat) : AV → AV
  | .fn g as bs => .fn g (as.map (AV.rn0 ρ nm)) (bs.map (AV.rn0 ρ nm))
  | a => a.rn0 ρ nm
def AV.rn (ρ:List (Nat×Nat))(nm:Nat):AV→AV|.agg cs=>.agg (cs.map (AV.rn1 ρ nm))|.tup cs=>.tup (cs.map (AV.rn1 ρ nm))|a=>a.rn1 ρ nm
def KN (keys:List Nat)(k:Nat):Prop:=(k<16∧k∈keys)∨(16≤k∧k<32)
def H0 (keys:List Nat)(ρ:List (Nat×Nat))(nm:Nat)(a:AV)(K:AV→Prop):Prop:=match a with|.any=>K .any|.d x=>K (.d x)|.op k i j=>rnK keys ρ nm k fun k=>K (.op k i j)|.os k=>rnK keys ρ nm k fun k=>K (.os k)|.nl s=>K (.nl s)|.pp x j=>K (.pp x j)|.gp g=>K (.gp g)|_=>False
theorem yj {keys:List Nat}{ρ:List (Nat×Nat)}{nm:Nat}{a:AV}{K:AV→Prop}(h:H0 keys ρ nm a K):K (a.rn0 ρ nm)∧a.ok (KN keys)∧(∀cs,a≠.agg cs)∧(∀cs,a≠.tup cs)∧∀g xs ys,a≠.fn g xs ys:=by
 unfold H0 at h;split at h;·exact⟨h,.any,by simp,by simp,by simp⟩
 ·exact⟨h,.d _,by simp,by simp,by simp⟩
 ·obtain⟨h1,h2⟩:=uI h;exact⟨h1,.op _ _ _ h2,by simp,by simp,by simp⟩
 ·obtain⟨h1,h2⟩:=uI h;exact⟨h1,.os _ h2,by simp,by simp,by simp⟩
 ·exact⟨h,.nl _,by simp,by simp,by simp⟩
 ·exact⟨h,.pp _ _,by simp,by simp,by simp⟩
 ·exact⟨h,.gp _,by simp,by simp,by simp⟩
 ·cases h
def BC (keys:List Nat)(ρ:List (Nat×Nat))(nm:Nat):List AV→(List AV→Prop)→Prop|[],K=>K []|a::l,K=>H0 keys ρ nm a fun a=>BC keys ρ nm l fun l=>K (a::l)
def zx (keys:List Nat)(l:List AV):Prop:=∀a,a∈l→a.ok (KN keys)∧(∀cs,a≠.agg cs)∧(∀cs,a≠.tup cs)∧∀g xs ys,a≠.fn g xs ys
theorem t4 {keys:List Nat}{ρ:List (Nat×Nat)}{nm:Nat}{l:List AV}{K:List AV→Prop}(h:BC keys ρ nm l K):K (l.map (AV.rn0 ρ nm))∧zx keys l:=by induction l generalizing K with|nil=>exact⟨h,fun a ha=>by cases ha⟩;|cons a l ih=>obtain⟨h1,h2⟩:=yj h;obtain⟨h3,h4⟩:=ih h1;exact⟨h3,fun b hb=>by
 rcases List.mem_cons.1 hb with rfl|hb;·exact h2
 ·exact h4 b hb⟩
def JO (keys : List Nat) (ρ : List (Nat × Nat)) (nm : Nat) (a : AV) (K : AV → Prop) : Prop :=
  match a with
  | .fn g as bs => BC keys ρ nm as fun as => BC keys ρ nm bs fun bs => K (.fn g as bs)
  | a => H0 keys ρ nm a K
def B3 (keys:List Nat)(ρ:List (Nat×Nat))(nm:Nat):List AV→(List AV→Prop)→Prop|[],K=>K []|a::l,K=>JO keys ρ nm a fun a=>B3 keys ρ nm l fun l=>K (a::l)
def rcK (keys:List Nat)(ρ:List (Nat×Nat))(nm:Nat)(a:AV)(K:AV→Prop):Prop:=match a with|.agg cs=>B3 keys ρ nm cs fun cs=>K (.agg cs)|.tup cs=>B3 keys ρ nm cs fun cs=>K (.tup cs)|a=>JO keys ρ nm a K
structure Ren (keys:List Nat)(ρ:List (Nat×Nat))(nm:Nat)(a:AV):Prop where
 ok:a.ok (KN keys)one:(a.rn ρ nm).one=a.one
 okr:∀q:Nat→Prop,(∀k,KN keys k→q (Eng.rn ρ nm k))→(a.rn ρ nm).ok q
 rd:∀(w:World)(α α':Nat→dh)(X X':Nat→Prop)(v:Value),co w α' X a v→(∀b,(∃o,w.heap[b]?=some o)→X' b→X b)→(∀k,KN keys k→α (Eng.rn ρ nm k)=α' k)→co w α X' (a.rn ρ nm) v
theorem uP {keys : List Nat} {ρ : List (Nat × Nat)} {nm : Nat} {a : AV} (h : a.ok (KN keys)) (h1 : ∀ cs, a ≠ .agg cs) (h2 : ∀ cs, a ≠ .tup cs) (h3 : ∀ g xs ys, a ≠ .fn g xs ys) :
    (a.rn0 ρ nm).one = a.one ∧ (∀ q : Nat → Prop, (∀ k, KN keys k → q (Eng.rn ρ nm k)) → (a.rn0 ρ nm).ok q) ∧
    ∀ (w : World) (α α' : Nat → dh) (X X' : Nat → Prop) (v : Value), co w α' X a v → (∀ b, (∃ o, w.heap[b]? = some o) → X' b → X b) → (∀ k, KN keys k → α (Eng.rn ρ nm k) = α' k) → co w α X' (a.rn0 ρ nm) v := by
  have hm : ∀ {w : World} {X X' : Nat → Prop} {x : D} {u : Value}, (∀ b, (∃ o, w.heap[b]? = some o) → X' b → X b) → Rd w X x u → Rd w X' x u :=
    fun hX h => h.mono fun b o hb hn => ⟨hb, fun h => hn (hX b ⟨o, hb⟩ h)⟩
  cases h with
  | any => exact ⟨rfl, fun q _ => .any, fun w α α' X X' v hr _ _ => .any v⟩
  | ab => exact ⟨rfl, fun q _ => .ab, fun w α α' X X' v hr _ _ => by cases hr; exact .ab _⟩
  | ap => exact ⟨rfl, fun q _ => .ap, fun w α α' X X' v hr _ _ => by cases hr; exact .ap _⟩
  | d x => exact ⟨rfl, fun q _ => .d x, fun w α α' X X' v hr hX _ => .d _ _ (hm hX hr.dinv)⟩
  | agg cs _ => exact absurd rfl (h1 cs)
  | op k i j hk =>
    refine ⟨rfl, fun q hq => .op _ _ _ (hq k hk), fun w α α' X X' v hr hX hα => ?_⟩
    cases hr
    rw [← hα k hk]; exact .op _ _ _
  | os k hk =>
    refine ⟨rfl, fun q hq => .os _ (hq k hk), fun w α α' X X' v hr hX hα => ?_⟩
    cases hr with
    | os _ ho => rw [← hα k hk] at ho ⊢; exact .os _ ho
  | nl s => exact ⟨rfl, fun q _ => .nl s, fun w α α' X X' v hr _ _ => by cases hr; exact .nl _⟩
  | pp x i =>
    refine ⟨rfl, fun q _ => .pp x i, fun w α α' X X' v hr hX _ => ?_⟩
    cases hr with
    | pp _ _ blk off arr T fz f hh hx g1 g2 => exact .pp _ _ blk off arr T fz f hh (fun h => hx (hX _ ⟨_, hh⟩ h)) g1 fun j c hc => hm hX (g2 j c hc)
  | gp g => exact ⟨rfl, fun q _ => .gp g, fun w α α' X X' v hr _ _ => by cases hr; exact .gp _⟩
  | tup cs _ => exact absurd rfl (h2 cs)
  | fn g as bs _ _ => exact absurd rfl (h3 g as bs)
structure IH (keys:List Nat)(ρ:List (Nat×Nat))(nm:Nat)(a:AV):Prop where
 nagg:∀cs,a≠.agg cs
 ntup:∀cs,a≠.tup cs
 ok:a.ok (KN keys)one:(a.rn1 ρ nm).one=a.one
 okr:∀q:Nat→Prop,(∀k,KN keys k→q (Eng.rn ρ nm k))→(a.rn1 ρ nm).ok q
 rd:∀(w:World)(α α':Nat→dh)(X X':Nat→Prop)(v:Value),co w α' X a v→(∀b,(∃o,w.heap[b]?=some o)→X' b→X b)→(∀k,KN keys k→α (Eng.rn ρ nm k)=α' k)→co w α X' (a.rn1 ρ nm) v
theorem yt {keys:List Nat}{ρ:List (Nat×Nat)}{nm:Nat}{a:AV}{K:AV→Prop}(h:JO keys ρ nm a K):K (a.rn1 ρ nm)∧IH keys ρ nm a:=by
 have lst:∀{cs:List AV},zx keys cs→∀{w:World}{α α':Nat→dh}{X X':Nat→Prop}{vs:Array Value},(∀(j:Nat)(c:AV)(v:Value),cs[j]?=some c→vs[j]?=some v→co w α' X c v)→(∀b,(∃o,w.heap[b]?=some o)→X' b→X b)→(∀k,KN keys k→α (Eng.rn ρ nm k)=α' k)→∀(j:Nat)(c:AV)(v:Value),(cs.map (AV.rn0 ρ nm))[j]?=some c→vs[j]?=some v→co w α X' c v:=by intro cs hs w α α' X X' vs hc hX hα j c v h1 h2;simp only[List.getElem?_map,Nk] at h1;obtain⟨a,ha,rfl⟩:=h1;obtain⟨g1,g2,g3,g4⟩:=hs a (Ni ha);exact(uP g1 g2 g3 g4).2.2 w α α' X X' v (hc j a v ha h2) hX hα
 have lok:∀{cs:List AV},zx keys cs→∀q:Nat→Prop,(∀k,KN keys k→q (Eng.rn ρ nm k))→∀c,c∈cs.map (AV.rn0 ρ nm)→c.ok q:=by intro cs hs q hq c hc;obtain⟨a,ha,rfl⟩:=List.mem_map.1 hc;obtain⟨g1,g2,g3,g4⟩:=hs a ha;exact(uP g1 g2 g3 g4).2.1 q hq
 unfold JO at h;split at h;·obtain⟨h1,h2⟩:=t4 h;obtain⟨h3,h4⟩:=t4 h1;refine⟨h3,by simp,by simp,.fn _ _ _ (fun c hc=>(h2 c hc).1) fun c hc=>(h4 c hc).1,rfl,fun q hq=>.fn _ _ _ (lok h2 q hq) (lok h4 q hq),fun w α α' X X' v hr hX hα=>?_⟩;cases hr with|fn _ _ _ va vb l1 l2 c1 c2=>exact .fn _ _ _ va vb (by simpa using l1) (by simpa using l2) (lst h2 c1 hX hα) (lst h4 c2 hX hα)
 ·rename_i h3;obtain⟨hk,hok,n1,n2,n3⟩:=yj h;have e:a.rn1 ρ nm=a.rn0 ρ nm:=by cases a<;>first|rfl|exact absurd rfl (h3 _ _ _)
  obtain⟨g1,g2,g3⟩:=uP (ρ:=ρ) (nm:=nm) hok n1 n2 n3;rw[e];exact⟨hk,n1,n2,hok,by rw[e];exact g1,by rw[e];exact g2,by rw[e];exact g3⟩
theorem uw {keys:List Nat}{ρ:List (Nat×Nat)}{nm:Nat}{l:List AV}{K:List AV→Prop}(h:B3 keys ρ nm l K):K (l.map (AV.rn1 ρ nm))∧∀a,a∈l→IH keys ρ nm a:=by induction l generalizing K with|nil=>exact⟨h,fun a ha=>by cases ha⟩;|cons a l ih=>obtain⟨h1,h2⟩:=yt h;obtain⟨h3,h4⟩:=ih h1;exact⟨h3,fun b hb=>by
 rcases List.mem_cons.1 hb with rfl|hb;·exact h2
 ·exact h4 b hb⟩
theorem IQ {keys:List Nat}{ρ:List (Nat×Nat)}{nm:Nat}{a:AV}{K:AV→Prop}(h:rcK keys ρ nm a K):K (a.rn ρ nm)∧Ren keys ρ nm a:=by
 have lst:∀{cs:List AV},(∀a,a∈cs→IH keys ρ nm a)→∀{w:World}{α α':Nat→dh}{X X':Nat→Prop}{vs:Array Value},(∀(j:Nat)(c:AV)(v:Value),cs[j]?=some c→vs[j]?=some v→co w α' X c v)→(∀b,(∃o,w.heap[b]?=some o)→X' b→X b)→(∀k,KN keys k→α (Eng.rn ρ nm k)=α' k)→∀(j:Nat)(c:AV)(v:Value),(cs.map (AV.rn1 ρ nm))[j]?=some c→vs[j]?=some v→co w α X' c v:=by intro cs hs w α α' X X' vs hc hX hα j c v h1 h2;simp only[List.getElem?_map,Nk] at h1;obtain⟨a,ha,rfl⟩:=h1;exact(hs a (Ni ha)).rd w α α' X X' v (hc j a v ha h2) hX hα
 have lok:∀{cs:List AV},(∀a,a∈cs→IH keys ρ nm a)→∀q:Nat→Prop,(∀k,KN keys k→q (Eng.rn ρ nm k))→∀c,c∈cs.map (AV.rn1 ρ nm)→c.ok q:=by intro cs hs q hq c hc;obtain⟨a,ha,rfl⟩:=List.mem_map.1 hc;exact(hs a ha).okr q hq
 unfold rcK at h;split at h;·obtain⟨h1,h2⟩:=uw h;refine⟨h1,.agg _ fun c hc=>(h2 c hc).ok,rfl,fun q hq=>.agg _ (lok h2 q hq),fun w α α' X X' v hr hX hα=>?_⟩;cases hr with|agg _ vs hl hc=>exact .agg _ vs (by simpa using hl) (lst h2 hc hX hα)
 ·obtain⟨h1,h2⟩:=uw h;refine⟨h1,.tup _ fun c hc=>(h2 c hc).ok,rfl,fun q hq=>.tup _ (lok h2 q hq),fun w α α' X X' v hr hX hα=>?_⟩;cases hr with|tup _ vs hl hc=>exact .tup _ vs (by simpa using hl) (lst h2 hc hX hα)
 ·rename_i h1 h2;obtain⟨hk,r⟩:=yt h;have e:a.rn ρ nm=a.rn1 ρ nm:=by cases a<;>first|rfl|exact absurd rfl (h1 _)|exact absurd rfl (h2 _)
  rw[e];exact⟨hk,r.ok,by rw[e];exact r.one,by rw[e];exact r.okr,by rw[e];exact r.rd⟩
def F4 (keys:List Nat)(ρ:List (Nat×Nat))(nm:Nat):List AV→(List AV→Prop)→Prop|[],K=>K []|a::l,K=>rcK keys ρ nm a fun a=>F4 keys ρ nm l fun l=>K (a::l)
theorem wR {keys:List Nat}{ρ:List (Nat×Nat)}{nm:Nat}{l:List AV}{K:List AV→Prop}(h:F4 keys ρ nm l K):K (l.map (AV.rn ρ nm))∧∀a,a∈l→Ren keys ρ nm a:=by induction l generalizing K with|nil=>exact⟨h,fun a ha=>by cases ha⟩;|cons a l ih=>obtain⟨h1,h2⟩:=IQ h;obtain⟨h3,h4⟩:=ih h1;exact⟨h3,fun b hb=>by
 rcases List.mem_cons.1 hb with rfl|hb;·exact h2
 ·exact h4 b hb⟩
def aS.rn (ρ:List (Nat×Nat))(nm:Nat):aS→aS|.box cs T=>.box (cs.map (AV.rn ρ nm)) T|e=>e
def reK (keys:List Nat)(ρ:List (Nat×Nat))(nm:Nat)(e:aS)(K:aS→Prop):Prop:=match e with|.box cs T=>F4 keys ρ nm cs fun cs=>K (.box cs T)|.arr s xs=>K (.arr s xs)|.buf s xs T=>K (.buf s xs T)|.iset ks=>K (.iset ks)|.iters s pos=>K (.iters s pos)
theorem Iz {keys:List Nat}{ρ:List (Nat×Nat)}{nm:Nat}{e:aS}{K:aS→Prop}(h:reK keys ρ nm e K):K (e.rn ρ nm)∧∀a,a∈e.vars→Ren keys ρ nm a:=by
 unfold reK at h;split at h;·exact wR h
 ·exact⟨h,fun a ha=>by cases ha⟩
 ·exact⟨h,fun a ha=>by cases ha⟩
 ·exact⟨h,fun a ha=>by cases ha⟩
 ·exact⟨h,fun a ha=>by cases ha⟩
def Bg (keys:List Nat)(ρ:List (Nat×Nat))(nm:Nat)(tail:List (Nat×Option aS)):List (Nat×Option aS)→(List (Nat×Option aS)→Prop)→Prop|[],K=>K tail|(k,some e)::r,K=>rnK keys ρ nm k fun k=>reK keys ρ nm e fun e=>Bg keys ρ nm tail r fun u=>K ((k,some e)::u)|(_,none)::_,_=>False
def BJ (ρ:List (Nat×Nat))(nm:Nat)(x:Nat×Option aS):Nat×Option aS:=(rn ρ nm x.1,x.2.map (aS.rn ρ nm))
theorem Dn {keys:List Nat}{ρ:List (Nat×Nat)}{nm:Nat}{tail:List (Nat×Option aS)}{l:List (Nat×Option aS)}{K:List (Nat×Option aS)→Prop}(h:Bg keys ρ nm tail l K):K (l.map (BJ ρ nm)++tail)∧∀k oe,(k,oe)∈l→KN keys k∧∃e,oe=some e∧∀a,a∈e.vars→Ren keys ρ nm a:=by induction l generalizing K with|nil=>exact⟨h,fun k oe hk=>by cases hk⟩;|cons x l ih=>obtain⟨k,oe⟩:=x;cases oe with|none=>exact h.elim;|some e=>
 obtain⟨h1,h2⟩:=uI h;obtain⟨h3,h4⟩:=Iz h1;obtain⟨h5,h6⟩:=ih h3;refine⟨h5,fun k' oe' hk'=>?_⟩;rcases List.mem_cons.1 hk' with he|hk';·cases he;exact⟨h2,e,rfl,h4⟩
 ·exact h6 k' oe' hk'
def JK (rs:List AV)(K:AV→Prop):Prop:=match rs with|[r]=>K r|rs=>K (.tup rs)
def ta (rs:List AV):AV:=match rs with|[r]=>r|rs=>.tup rs
theorem Hg {rs:List AV}{K:AV→Prop}(h:JK rs K):K (ta rs):=by
 unfold JK at h;unfold ta;split at h;·exact h
 ·exact h
def tF (l:List Nat):List (Nat×Option aS):=match l with|[]=>[]|k::r=>(k,none)::tF r
theorem xG (l:List Nat):tF l=l.map fun k=>(k,none):=by induction l with|nil=>rfl;|cons k r ih=>simp[tF,ih]
def zb (l m:List Nat):List Nat:=match l with|[]=>m|x::r=>x::zb r m
theorem Ip (l m:List Nat):zb l m=l++m:=by induction l with|nil=>rfl;|cons k r ih=>simp[zb,ih]
def IS (l m:List Nat):Bool:=match l with|[]=>true|x::r=>match yS m x with|true=>IS r m|false=>false
theorem yf {l m:List Nat}(h:IS l m=true):∀x,x∈l→x∈m:=by induction l with|nil=>intro x hx;cases hx;|cons y r ih=>
 simp only[IS] at h;split at h
 ·rename_i hb;intro x hx;rcases List.mem_cons.1 hx with rfl|hx;·exact mW.1 hb
  ·exact ih h x hx
 ·cases h
def EM (us vs:List Nat):Bool:=IS vs us
def Ao (st:AS)(chk:List Nat→Bool)(ρ:List (Nat×Nat)):List AV→List AV→Prop|[],[]=>True|a::l,b::m=>DS st chk ρ 1 a b∧Ao st chk ρ l m|_,_=>False
theorem qP {st:AS}{chk:List Nat→Bool}{ρ:List (Nat×Nat)}:∀{l m:List AV},Ao st chk ρ l m→l.length=m.length∧∀(j:Nat)(a b:AV),l[j]?=some a→m[j]?=some b→DS st chk ρ 1 a b
 |[],[],_=>⟨rfl,fun j a b h=>by simp at h⟩|a::l,b::m,h=>by obtain⟨h1,h2⟩:=qP h.2;refine⟨by simp[h1],fun j x y hx hy=>?_⟩;cases j with|zero=>simp at hx hy;subst hx hy;exact h.1;|succ j=>exact h2 j x y (by simpa using hx) (by simpa using hy)
 |[],_::_,h=>h.elim|_::_,[],h=>h.elim
def lT (own:List (Nat×Option aS)):List Nat:=match own with|[]=>[]|x::r=>x.1::lT r
theorem Cu (own:List (Nat×Option aS)):lT own=own.map (·.1):=by induction own with|nil=>rfl;|cons k r ih=>simp[lT,ih]
def oN (ρ:List (Nat×Nat))(own:List (Nat×Option aS)):List Nat:=match own with|[]=>[]|x::r=>dX ρ x.1::oN ρ r
theorem xt (ρ:List (Nat×Nat))(own:List (Nat×Option aS)):oN ρ own=dV ρ own:=by induction own with|nil=>rfl;|cons k r ih=>simp[oN,ih,dV]
structure LeH (st : AS) (ρ : List (Nat × Nat)) (us : List Nat) (as bs : List AV) (own : List (Nat × Option aS)) : Prop where
  args : Ao st (EM us) ρ as bs
  DO : Ga (EM us) ρ 1 st own
  inj : Ig ρ own = true
  off : sE (oN ρ own) us = true
  nil : dX ρ 14 = 14
structure Ap (C : cq) (CA : Array Value → World → (Ending → World → Prop) → Prop) (st : AS) (nm : Nat) (f : FuncId) (as : List AV) (K : KO) : Prop where
  out : ∃ bs own rs own' ρ us, EH C CA f bs own rs own' ∧ LeH st ρ us as bs own ∧
    Bg (lT own) ρ nm (tF (zb (oN ρ own) us)) own' fun upd => F4 (lT own) ρ nm rs fun rs => JK rs fun out => K out upd (zb (oN ρ own) us)
def KF (C : cq) (f : FuncId) (as : List AV) (out : AV) : Prop :=
  ∀ (w : World) (α : Nat → dh) (X : Nat → Prop) (p : Nat → Prop) (vs : Array Value), as.length = vs.size → (∀ (j : Nat) (av : AV) (v : Value), as[j]? = some av → vs[j]? = some v → co w α X av v) → (∀ av, av ∈ as → av.ok p) →
    ∃ v, (callFunc f vs).run C.P w = .ok (.value v) w ∧ co w α X out v ∧ out.ok p
structure od (C : cq) (st : AS) (nm : Nat) (f : FuncId) (as : List AV) (K : KO) : Prop where
  out : Ap C (Calls C.P f) st nm f as K ∨ ∃ out, KF C f as out ∧ K out [] []
def Mk:List AV→List Nat→List Nat|[],r=>r|a::l,r=>match a with|.os k=>k::Mk l r|_=>Mk l r
def zE:List AV→List AV→List Nat
 |a::l,b::m=>match b with
  |.d _=>(match a with|.os k=>k::zE l m|.agg cs=>Mk cs (zE l m)|_=>zE l m)|_=>zE l m
 |_,_=>[]
theorem ak {C : cq} {st : AS} {nm : Nat} {f : FuncId} {as : List AV} {K : KO} {bs : List AV} {own : List (Nat × Option aS)} {rs : List AV} {own' : List (Nat × Option aS)} (ρ : List (Nat × Nat))
    (h : aH C f bs own rs own') (h1 : LeH st ρ (zE as bs) as bs own) (h2 : Bg (lT own) ρ nm (tF (zb (oN ρ own) (zE as bs))) own' fun upd => F4 (lT own) ρ nm rs fun rs => JK rs fun out => K out upd (zb (oN ρ own) (zE as bs))) :
    od C st nm f as K := ⟨.inl ⟨bs, own, rs, own', ρ, _, h, h1, h2⟩⟩
structure BB (C:cq)(f:FuncId)(ds:List D)(K:List D→Prop)(alt:Prop):Prop where out:(∃rs,ay C f ds rs∧K rs)∨alt
theorem ah {C:cq}{f:FuncId}{ds rs:List D}{K:List D→Prop}{alt:Prop}(h:ay C f ds rs)(h1:K rs):BB C f ds K alt:=⟨.inl ⟨rs,h,h1⟩⟩
theorem aT {C:cq}{f:FuncId}{ds:List D}{K:List D→Prop}{alt:Prop}(h:alt):BB C f ds K alt:=⟨.inr h⟩
def AV.plain0:AV→Bool|.d _|.nl _|.os _=>true|_=>false
def Cc:List AV→Bool|[]=>true|a::l=>match a.plain0 with|true=>Cc l|false=>false
def AV.plain:AV→Bool|.d _|.nl _|.os _=>true|.agg cs=>Cc cs|_=>false
def E1:List AV→Bool|[]=>true|a::l=>match a.plain with|true=>E1 l|false=>false
def setOs (st:AS)(a:AV):Bool:=match a with
 |.os k=>match look st.own k with
  |some (some (.iset _))=>true|_=>false
 |_=>false
def KG (st:AS):List AV→Bool|[]=>false|a::l=>match setOs st a with|true=>true|false=>KG st l
def goK (C : cq) (st : AS) (nm : Nat) (f : FuncId) (as : List AV) (K : KO) : Prop :=
  match E1 as with
  | true => match KG st as with
    | true => od C st nm f as K
    | false => p7 st as fun ds us => BB C f ds (fun rs => Mb rs us K) (od C st nm f as K)
  | false => od C st nm f as K
end Go.Eng
namespace Go.Eng
open Go.RowKit (Below)
section
variable {C:cq}{n:Nat}{o:Oper}{nm:Nat}{st:AS}{K:KO}
def yM (C : cq) (n : Nat) (o : Oper) (st : AS) (f : FuncId) (as : List AV) : Prop :=
  uX C f → ∀ (X0 : Nat → Prop) (F : Fr) (w0 : World) (p : Nat → Prop) (α : Nat → dh) (S : SS) (a : Act) (w : World), dn C.G X0 F w0 n p α S a w →
    (∀ t, Operand.tmp t ∈ o.op.operands → ∀ av, st.ss.env t = some av → S.env t = some av) →
    ∃ vs : Array Value, as.length = vs.size ∧ (∀ (j : Nat) (av : AV) (v : Value), as[j]? = some av → vs[j]? = some v → co w α (XX α S.own X0) av v) ∧
      ∀ (next : Act → World → Prop) (Q : Exit → Act → World → Prop), Calls C.P f vs w (fun e w' => ∃ v, e = .returned v ∧ next (a.put o.dst v) w') → o.wp C.P a w next Q
theorem DK {f : FuncId} {as : List AV} (hE : yM C n o st f as) (h : p7 st as fun ds us => ∃ rs, ay C f ds rs ∧ Mb rs us K) :
    ∃ out upd rd, K out upd rd ∧ cr C n o nm st rd out upd := by
  replace h := uf h; obtain ⟨ds, us, h, h2, h3, h4⟩ := h
  obtain ⟨rs, ⟨hbody, hP⟩, h⟩ := h
  have main : ∀ (kills : List Nat), (∀ k, k ∈ kills → k ∈ us) → (kills = us ∨ ∀ d, d ∈ rs → d.flat = true) → cr C n o nm st us (gP rs) (kills.map fun k => (k, none)) := by
    intro kills hku hor
    have hlk : ∀ k oe, look (kills.map fun k => (k, (none : Option aS))) k = some oe → k ∈ kills ∧ oe = none := by
      intro k oe hl
      rcases dy (β := aS) kills k with h | ⟨h, hm⟩
      · rw [h] at hl; cases hl
      · rw [h] at hl; cases hl; exact ⟨hm, rfl⟩
    have hin : ∀ k, k ∈ kills → look (kills.map fun k => (k, (none : Option aS))) k = some none := by
      intro k hk
      clear hku hor hlk
      induction kills with
      | nil => cases hk
      | cons x l ih =>
        simp only [Nw, look]
        split
        · rfl
        · rename_i hb
          rcases List.mem_cons.1 hk with rfl | hk
          · simp at hb
          · exact ih hk
    refine ⟨fun k oe hl => .inl (hku k (hlk k oe hl).1), fun X0 F w0 p α S a w Q next hs he ho' _ hd hn => ?_⟩
    obtain ⟨vs, hvl, hvr, hrun⟩ := hE hbody X0 F w0 p α S a w hs he
    let X1 : Nat → Prop := fun b => XX α S.own X0 b ∧ ∀ k, k ∈ us → (α k).nil = false → (α k).blk ≠ b
    have hX1 : ∀ b, X1 b → XX α S.own X0 b := fun b h => h.1
    have hXlt : ∀ b, XX α S.own X0 b → b < w.heap.size := by
      rintro b (⟨k, e, hk, hnil, rfl⟩ | hx)
      · exact (hs.own k e hk).lt hnil
      · exact Nat.lt_of_lt_of_le (hs.x0 b hx) hs.grow
    refine hrun _ _ ?_
    refine (hP w X1 vs (fun b hb => hXlt b (hX1 b hb)) (fun x hx => ?_) (by omega) ?_).mono ?_
    · obtain ⟨hg1, _⟩ := hs.gl x hx
      obtain ⟨arr, T, fz, hh, hX, hsz, hw, hr⟩ := xz hs hx
      refine ⟨Nat.lt_of_lt_of_le hg1 hs.grow, fun h => hX (hX1 _ h), arr, T, fz, hh, hsz, hw, fun j m d c hj hm => ?_⟩
      obtain ⟨v, hv, hr'⟩ := hr j m d c hj hm
      exact ⟨v, hv, hr'.mono fun b o hb hn => ⟨hb, fun h => hn (hX1 b h)⟩⟩
    · intro j d v hj hv
      obtain ⟨av, hav⟩ : ∃ av, as[j]? = some av := by
        have : j < as.length := by rw [← h2]; exact (Nc.1 hj).1
        exact ⟨as[j], by simp [this]⟩
      obtain ⟨vs', h5, h6⟩ := h4 j av d hav hj
      refine h5.rd w α (XX α S.own X0) X1 _ (hvr j av v hav hv) (fun k hk e hke => hs.own k e (ho' k (h6 k hk) e hke)) hX1 fun k hk hnil hb => ?_
      exact hb.2 k (h6 k hk) hnil rfl
    · rintro e w' ⟨v, rfl, hr, hB⟩
      refine ⟨v, rfl, hn α v w' ?_⟩
      refine hs.upd _ (fun k hk => .inl hk) α w' o.dst hd (gP rs) _ v (fun _ _ => rfl) hB.size hB.os hB.tape hB.output (fun b hb _ => hB.block b hb) ?_ ?_ ?_ ?_ ?_ HN
      · intro k e hl; cases (hlk k _ hl).2
      · intro k e hl; cases (hlk k _ hl).2
      · intro k e k' e' hl; cases (hlk k _ hl).2
      · intro _ k e hl; cases (hlk k _ hl).2
      · intro hw
        refine D3 hr fun d u hd' hru => ?_
        rcases hor with rfl | hflat
        · refine hru.mono fun b ob hb hnx => ⟨hb, fun hX' => hnx ?_⟩
          rcases hX' with ⟨k, e, hk, hnil, rfl⟩ | hx
          · have hkn : k ∉ kills ∧ S.own k = some e := by
              simp only [SS.upd] at hk
              rcases dy (β := aS) kills k with h | ⟨h, hm⟩
              · rw [h] at hk
                refine ⟨fun hm => ?_, hk⟩
                rw [hin k hm] at h; cases h
              · rw [h] at hk; cases hk
            refine ⟨.inl ⟨k, e, hkn.2, hnil, rfl⟩, fun k' hk' hnil' hbb => ?_⟩
            obtain ⟨e', he'⟩ := h3 k' hk'
            have := hs.inj k' e' k e (ho' k' hk' e' he') hkn.2 hnil' hnil hbb
            subst this; exact hkn.1 hk'
          · refine ⟨.inr hx, fun k' hk' hnil' hbb => ?_⟩
            obtain ⟨e', he'⟩ := h3 k' hk'
            have := (hs.mine k' e' (ho' k' hk' e' he') hnil').2
            rw [hbb] at this; exact this hx
        · exact hru.flat (hflat d hd')
  unfold Mb at h
  split at h
  · have := main [] (fun k hk => by cases hk) (.inl rfl)
    split at h
    · exact ⟨_, _, _, h, this⟩
    · exact ⟨_, _, _, h, this⟩
  · split at h
    · split at h
      · rename_i hfl
        exact ⟨_, _, _, h, main [] (fun k hk => by cases hk) (.inr fun d hd => by simp at hd; subst hd; exact hfl)⟩
      · exact ⟨_, _, _, h, main _ (fun k hk => hk) (.inl rfl)⟩
    · exact ⟨_, _, _, h, main _ (fun k hk => hk) (.inl rfl)⟩
theorem jq {β:Type}(l m:List (Nat×β))(k:Nat):look (l++m) k=match look l k with|some v=>some v|none=>look m k:=by induction l with|nil=>rfl;|cons x l ih=>
 simp only[List.cons_append,look];split;·rfl
 ·exact ih
theorem Do {β:Type}{l m:List (Nat×β)}{k:Nat}{v:β}(h:look (l++m) k=some v):look l k=some v∨(look l k=none∧look m k=some v):=by rw[jq] at h;cases hl:look l k with|none=>rw[hl] at h;exact .inr ⟨rfl,h⟩;|some u=>rw[hl] at h;exact .inl h
theorem lD {β:Type}{l:List (Nat×β)}{k:Nat}{v:β}(h:(k,v)∈l):(look l k).isSome=true:=by induction l with|nil=>cases h;|cons x l ih=>
 obtain⟨y,u⟩:=x;simp only[look];split;·rfl
 ·rename_i hb;rcases List.mem_cons.1 h with he|h;·cases he;simp at hb
  ·exact ih h
theorem AT {ρ:List (Nat×Nat)}{nm:Nat}{k:Nat}{oe:Option aS}:∀{l:List (Nat×Option aS)},(∀k oe,(k,oe)∈l→∃e,oe=some e)→look (l.map (BJ ρ nm)) k=some oe→∃k' e',look l k'=some (some e')∧(k',some e')∈l∧k=rn ρ nm k'∧oe=some (e'.rn ρ nm)
 |[],_,h=>by simp[look] at h;|(y,oy)::l,hall,h=>by
  obtain⟨ey,rfl⟩:=hall y oy List.mem_cons_self;simp only[Nw,BJ,look,Option.map_some] at h;split at h;·rename_i hb;cases h;exact⟨y,ey,by simp[look],List.mem_cons_self,Nd hb,rfl⟩
  ·rename_i hb;obtain⟨k',e',h1,h2,h3,h4⟩:=AT (fun k oe hk=>hall k oe (Nv _ hk)) h;refine⟨k',e',?_,Nv _ h2,h3,h4⟩;simp only[look];split;·rename_i hb2;have:=Nd hb2;subst this;rw[h3] at hb;simp at hb
   ·exact h1
theorem JE {keys:List Nat}{ρ:List (Nat×Nat)}{nm:Nat}{w:World}{α α':Nat→dh}{X X':Nat→Prop}{k:Nat}{e:aS}(h:lj w α' X k e)(hren:∀a,a∈e.vars→Ren keys ρ nm a)(hX:∀b,(∃o,w.heap[b]?=some o)→X' b→X b)(hk:α (rn ρ nm k)=α' k)(hα:∀k,KN keys k→α (rn ρ nm k)=α' k):lj w α X' (rn ρ nm k) (e.rn ρ nm):=by
 have hm:∀{x:D}{u:Value},Rd w X x u→Rd w X' x u:=fun h=>h.mono fun b o hb hn=>⟨hb,fun h=>hn (hX b ⟨o,hb⟩ h)⟩;rcases h.cases with(⟨h1,⟨sz,_,rfl⟩,h3⟩|⟨h1,arr,T,fz,cap,hB⟩)|⟨Q,mp,he,hO⟩;·exact .inl ⟨by rw[hk];exact h1,⟨sz,_,rfl⟩,by rw[hk];exact h3⟩
 rotate_left
 ·have:e.rn ρ nm=e:=by cases e<;>first|rfl|cases he
  rw[this];exact lj.ofO he (by rw[hk];exact hO)
 ·refine lj.ofC (.inr ⟨by rw[hk];exact h1,arr,T,fz,cap,?_⟩);rw[hk];cases e with
  |box cs T0=>
   have hl:(aS.rn ρ nm (.box cs T0)).sz=(aS.box cs T0).sz:=by simp[aS.rn,aS.sz]
   refine⟨hB.heap,by rw[hl];exact hB.hsz,hB.len,by rw[hl];exact hB.bnd,by rw[hl];exact hB.nf,?_,fun j m c hc=>?_,(fun sz xs _ he=>by cases he),hB.hone,fun V hV=>⟨(hB.ty V hV).1,(hB.ty V hV).2.1,fun cs' V' h=>by cases h;rw[Nl];exact(hB.ty V hV).2.2 cs T0 rfl⟩⟩;·intro c hc;obtain⟨a,ha,rfl⟩:=List.mem_map.1 (show c∈cs.map (AV.rn ρ nm) from hc);rw[(hren a ha).one];exact hB.wid a ha
   ·rw[hl];simp only[aS.rn,aS.cell] at hc;split at hc;·rename_i hj;subst hj;simp only[List.getElem?_map,Nk] at hc;obtain⟨a,ha,rfl⟩:=hc;obtain⟨u,h7,h8⟩:=hB.rd 0 m a (by simp[aS.cell,ha]);exact⟨u,h7,(hren a (Ni ha)).rd w α α' X X' u h8 hX hα⟩
    ·cases hc;|arr s xs=>refine⟨hB.heap,hB.hsz,hB.len,hB.bnd,hB.nf,hB.wid,fun j m c hc=>?_,hB.hv,hB.hone,hB.ty⟩;obtain⟨u,h7,h8⟩:=hB.rd j m c hc;simp only[aS.rn,aS.cell,Nu,Nk] at hc;obtain⟨x,_,y,_,rfl⟩:=hc;exact⟨u,h7,.d _ _ (hm h8.dinv)⟩;|buf s xs _=>refine⟨hB.heap,hB.hsz,hB.len,hB.bnd,hB.nf,hB.wid,fun j m c hc=>?_,hB.hv,hB.hone,hB.ty⟩;obtain⟨u,h7,h8⟩:=hB.rd j m c hc;simp only[aS.rn,aS.cell,Nu,Nk] at hc;obtain⟨x,_,y,_,rfl⟩:=hc;exact⟨u,h7,.d _ _ (hm h8.dinv)⟩;|iset ks=>exact hB.wid.elim;|iters s pos=>exact hB.wid.elim
theorem xI {CA : Array Value → World → (Ending → World → Prop) → Prop} {f : FuncId} {as : List AV} (hmono : ∀ {vs : Array Value} {w : World} {R R' : Ending → World → Prop}, CA vs w R → (∀ e w', R e w' → R' e w') → CA vs w R') (h : Ap C CA st nm f as K) :
    ∃ out upd rd, K out upd rd ∧ uX C f ∧ (∀ k oe, look upd k = some oe → k ∈ rd ∨ oo nm k) ∧
      ∀ (n : Nat) (X0 : Nat → Prop) (F : Fr) (w0 : World) (p : Nat → Prop) (α : Nat → dh) (S : SS) (a : Act) (w : World), dn C.G X0 F w0 n p α S a w → (∀ k, k ∈ rd → ∀ e, st.ss.own k = some e → S.own k = some e) → (∀ k, oo nm k → ¬ p k) →
        ∀ (vs : Array Value), as.length = vs.size → (∀ (j : Nat) (av : AV) (v : Value), as[j]? = some av → vs[j]? = some v → co w α (XX α S.own X0) av v) → ∀ dst : Option Nat, (∀ d, dst = some d → d < n) →
          CA vs w fun e w' => ∃ v, e = .returned v ∧ ∃ α', dn C.G X0 F w0 n (fun k => p k ∨ oo nm k) α' (S.upd dst out upd) (a.put dst v) w' := by
  obtain ⟨bs, own, rs, own', ρ, us, ⟨hbody, hP⟩, ⟨hargs, hrows, hinj, hoff, hr14⟩, h⟩ := h
  obtain ⟨h, hupd⟩ := Dn h
  obtain ⟨h, hren⟩ := wR h
  replace h := Hg h
  rw [Cu] at hupd hren
  rw [xt] at hoff
  generalize hkeys : own.map (·.1) = keys at hupd hren
  refine ⟨_, _, _, h, hbody, ?_⟩
  clear h
  rw [xG, Ip, xt]
  generalize hU : own'.map (BJ ρ nm) ++ (dV ρ own ++ us).map (fun k => (k, (none : Option aS))) = U
  have hoff' : ∀ k, k ∈ us → k ∉ dV ρ own := fun k hk => BU (by simpa [sE] using hoff) hk
  have hown : ∀ k oe, look own k = some oe → ∃ e' e, oe = some e' ∧ k < 16 ∧ st.ss.own (dX ρ k) = some e ∧ iW st (EM us) ρ 1 e e' := by
    intro k oe hl
    obtain ⟨e', e, h1, h2, h3, h4⟩ := t6 hrows k oe hl
    exact ⟨e', e, h1, by omega, h3, h4⟩
  have hkey : ∀ k, k ∈ keys → ∃ oe, look own k = some oe := by
    intro k hk
    rw [← hkeys] at hk
    obtain ⟨⟨k', oe⟩, hm, rfl⟩ := List.mem_map.1 hk
    have := lD hm
    cases hl : look own k' with
    | none => rw [hl] at this; cases this
    | some v => exact ⟨v, rfl⟩
  have hall' : ∀ k oe, (k, oe) ∈ own' → ∃ e, oe = some e := fun k oe hk => ⟨_, (hupd k oe hk).2.choose_spec.1⟩
  have hUe : ∀ k oe, look U k = some oe → (∃ k' e', look own' k' = some (some e') ∧ (k', some e') ∈ own' ∧ k = rn ρ nm k' ∧ oe = some (e'.rn ρ nm)) ∨ (oe = none ∧ (k ∈ dV ρ own ∨ k ∈ us)) := by
    intro k oe hl
    rw [← hU] at hl
    rcases Do hl with hl | ⟨_, hl⟩
    · exact .inl (AT hall' hl)
    · rcases dy (β := aS) (dV ρ own ++ us) k with h | ⟨h, hm⟩
      · rw [h] at hl; cases hl
      · rw [h] at hl; cases hl; exact .inr ⟨rfl, Np.1 hm⟩
  have hUk : ∀ k, k ∈ dV ρ own ∨ k ∈ us → (look U k).isSome = true := by
    intro k hk
    rw [← hU]
    exact lD (List.mem_append_right _ (List.mem_map.2 ⟨k, Np.2 hk, rfl⟩))
  have hrnlt : ∀ k, k < 16 → rn ρ nm k = dX ρ k := by
    intro k hk
    unfold rn
    rw [show Nat.blt k 16 = true by simp [Nat.blt]; omega]
  have hrnge : ∀ k, 16 ≤ k → rn ρ nm k = 16 * nm + (k - 16) := by
    intro k hk
    unfold rn
    rw [show Nat.blt k 16 = false from Bool.eq_false_iff.2 fun h => by have := gV h; omega]
  refine ⟨fun k oe hl => ?_, fun n X0 F w0 p α S a w hs ho' hp vs hvl hvr dst hd => ?_⟩
  · rcases hUe k oe hl with ⟨k', e', _, hm, rfl, _⟩ | ⟨_, hk⟩
    · rcases (hupd k' _ hm).1 with ⟨hlt, hk⟩ | ⟨h1, h2⟩
      · obtain ⟨oe2, hl2⟩ := hkey k' hk
        rw [hrnlt k' hlt]
        exact .inl (List.mem_append_left _ (iL hl2))
      · rw [hrnge k' h1]
        exact .inr (cI nm _ (by omega))
    · exact .inl (Np.2 hk)
  have hSk : ∀ k oe, look own k = some oe → ∃ e' e, oe = some e' ∧ k < 16 ∧ S.own (dX ρ k) = some e ∧ iW st (EM us) ρ 1 e e' := by
    intro k oe hl
    obtain ⟨e', e, h1, h2, h3, h4⟩ := hown k oe hl
    exact ⟨e', e, h1, h2, ho' _ (List.mem_append_left _ (iL hl)) e h3, h4⟩
  have hSu : ∀ k, k ∈ us → ∀ e, st.ss.own k = some e → S.own k = some e := fun k hk e he' => ho' k (List.mem_append_right _ hk) e he'
  let lent : Nat → Prop := fun b => ∃ k oe, look own k = some oe ∧ (α (dX ρ k)).nil = false ∧ (α (dX ρ k)).blk = b
  let X1 : Nat → Prop := fun b => XX α S.own X0 b ∧ ¬ lent b ∧ ∀ k, k ∈ us → (∃ e, st.ss.own k = some e) → (α k).nil = false → (α k).blk ≠ b
  let α1 : Nat → dh := fun k => α (dX ρ k)
  have hlentX : ∀ b, lent b → XX α S.own X0 b := by
    rintro b ⟨k, oe, hl, hnil, rfl⟩
    obtain ⟨e', e, _, _, h3, _⟩ := hSk k oe hl
    exact .inl ⟨_, e, h3, hnil, rfl⟩
  have hXlt : ∀ b, XX α S.own X0 b → b < w.heap.size := by
    rintro b (⟨k, e, hk, hnil, rfl⟩ | hx)
    · exact (hs.own k e hk).lt hnil
    · exact Nat.lt_of_lt_of_le (hs.x0 b hx) hs.grow
  let F1 : Fr := ⟨lent, fun k => if k < 16 then some (α1 k) else none, []⟩
  have hXA : ∀ b, XX α1 (AS.ss ⟨db 0 bs, own, 1⟩).own X1 b → lent b ∨ X1 b := by
    rintro b (⟨k, e, hk, hnil, rfl⟩ | hx)
    · exact .inl ⟨k, _, eG hk, hnil, rfl⟩
    · exact .inr hx
  have hlinj : ∀ b, lent b → ∀ k e, S.own k = some e → (α k).nil = false → (α k).blk = b → k ∈ dV ρ own := by
    rintro b ⟨k', oe, hl, hnil', rfl⟩ k e hk hnil hb
    obtain ⟨e', e2, _, _, h3, _⟩ := hSk k' oe hl
    have := hs.inj _ _ _ _ hk h3 hnil hnil' hb
    rw [this]; exact iL hl
  have hl0 : ∀ b, lent b → ¬ X0 b := by
    rintro b ⟨k', oe, hl, hnil', rfl⟩
    obtain ⟨e', e2, _, _, h3, _⟩ := hSk k' oe hl
    exact (hs.mine _ _ h3 hnil').2
  have hW : LeW st (EM us) w α (XX α S.own X0) (XX α1 (AS.ss ⟨db 0 bs, own, 1⟩).own X1) := by
    refine ⟨fun b hb => (hXA b hb).elim (hlentX b) fun h => h.1, fun vs' hvs k hk e he' => hs.own k e (hSu k (yf hvs k hk) e he'), fun vs' hvs k hk e he' hnil hb => ?_, hs.nil0.2.1⟩
    have hku := yf hvs k hk
    rcases hXA _ hb with hb | hb
    · exact hoff' k hku (hlinj _ hb k e (hSu k hku e he') hnil rfl)
    · exact hb.2.2 k hku ⟨e, he'⟩ hnil rfl
  obtain ⟨hargl, hargg⟩ := qP hargs
  have hsz : vs.size = bs.length := by omega
  have hArg : ∀ t av, look (db 0 bs) t = some av → co w α1 (XX α1 (AS.ss ⟨db 0 bs, own, 1⟩).own X1) av (vs.getD t undef) ∧ av.ok (fun k => k / 16 < 1) := by
    intro t av ht
    obtain ⟨_, hb⟩ := fS bs 0 t av ht
    simp only [Nat.sub_zero] at hb
    have hlt : t < bs.length := (Nc.1 hb).1
    have h1 : as[t]? = some (as[t]'(by omega)) := by simp [show t < as.length by omega]
    have h2 : vs[t]? = some (vs.getD t undef) := by simp [Array.getD, show t < vs.size by omega]
    exact nX hW (hargg t _ _ h1 hb) (hvr t _ _ h1 h2)
  have hSim1 : dn C.G X1 F1 w bs.length (b9 ⟨db 0 bs, own, 1⟩) α1 (AS.ss ⟨db 0 bs, own, 1⟩) ⟨vs, []⟩ w := by
    refine ⟨hsz, rfl, fun t av ht => (hArg t av ht).1, fun t av ht => (hArg t av ht).2, fun k e' hk => ?_, fun k e' hk => ?_, fun k e k' e' hk hk' hn hn' hb => ?_, fun k e' hk hn => ?_, fun b hb => hXlt b hb.1, fun _ _ _ => rfl, Nat.le_refl _, rfl, rfl, rfl, fun x hx => ?_, fun k l hk => ?_, ⟨by show (α (dX ρ 14)).nil = true; rw [hr14]; exact hs.nil0.1, by show (α (dX ρ 14)).hv = _; rw [hr14]; exact hs.nil0.2.1, by show 14 / 16 < 1; decide⟩⟩
    · obtain ⟨e2, e, h1, h2, h3, h4⟩ := hSk k _ (eG hk)
      cases h1
      exact (kV hW h4 (hs.own _ e h3)).1
    · obtain ⟨e2, e, h1, h2, h3, h4⟩ := hSk k _ (eG hk)
      cases h1
      exact ⟨by show k / 16 < 1; omega, (kV hW h4 (hs.own _ e h3)).2⟩
    · obtain ⟨e2, e3, h1, h2, h3, h4⟩ := hSk k _ (eG hk)
      obtain ⟨e4, e5, h5, h6, h7, h8⟩ := hSk k' _ (eG hk')
      exact wB hinj k k' _ _ (eG hk) (eG hk') (hs.inj _ _ _ _ h3 h7 hn hn' hb)
    · exact ⟨.inr ⟨k, _, eG hk, hn, rfl⟩, fun h => h.2.1 ⟨k, _, eG hk, hn, rfl⟩⟩
    · obtain ⟨hg1, _⟩ := hs.gl x hx
      obtain ⟨arr, T, fz, hh, hX, hsz', hw, hr⟩ := xz hs hx
      refine ⟨Nat.lt_of_lt_of_le hg1 hs.grow, fun h => hX (hlentX _ h), fun h => hX h.1, arr, T, fz, hh, hsz', hw, fun j m d c hj hm => ?_⟩
      obtain ⟨v, hv, hr'⟩ := hr j m d c hj hm
      exact ⟨v, hv, hr'.mono fun b o hb hn => ⟨hb, fun h => hn (h.elim (fun h => h.1) (hlentX b))⟩⟩
    · simp only [F1] at hk
      split at hk
      · rename_i hlt
        cases hk
        exact ⟨rfl, by show k / 16 < 1; omega⟩
      · cases hk
  refine hmono (hP w X1 F1 α1 vs (fun k l hk => ?_) hSim1) ?_
  · simp only [F1] at hk
    split at hk
    · assumption
    · cases hk
  rintro e w' ⟨α', us', rfl, hb⟩
  let α2 : Nat → dh := fun k => if k / 16 = nm then α' (16 + k % 16) else α k
  have hα2 : ∀ k, p k → α2 k = α k := by
    intro k hk
    have : ¬ k / 16 = nm := fun h => hp k h hk
    simp [α2, this]
  have hrn : ∀ k, KN keys k → α2 (rn ρ nm k) = α' k ∧ (p (rn ρ nm k) ∨ oo nm (rn ρ nm k)) := by
    rintro k (⟨hlt, hk⟩ | ⟨h1, h2⟩)
    · obtain ⟨oe, hl⟩ := hkey k hk
      obtain ⟨e2, e, _, _, h3, _⟩ := hSk k oe hl
      have hpk := (hs.oko _ e h3).1
      rw [hrnlt k hlt]
      refine ⟨?_, .inl hpk⟩
      rw [hα2 _ hpk]
      exact (hb.fix k (α1 k) (by simp [F1, hlt])).1.symm
    · rw [hrnge k h1]
      refine ⟨?_, .inr (cI nm _ (by omega))⟩
      have e1 : (16 * nm + (k - 16)) / 16 = nm := by omega
      have e2 : 16 + (16 * nm + (k - 16)) % 16 = k := by omega
      simp only [α2, e1, if_true, e2]
  have hBo : ∀ k e, look own' k = some (some e) → (AS.ss ⟨db 0 rs, own', 2⟩).own k = some e := by
    intro k e hl; simp only [AS.ss, hl]
  have hXC : ∀ out, ∀ b, (∃ o, w'.heap[b]? = some o) → XX α2 (S.upd dst out U).own X0 b → XX α' (AS.ss ⟨db 0 rs, own', 2⟩).own X1 b := by
    rintro out b _ (⟨k, e, hk, hnil, rfl⟩ | hx)
    · simp only [SS.upd] at hk
      cases hl : look U k with
      | some oe =>
        simp only [hl] at hk
        subst hk
        rcases hUe k _ hl with ⟨k', e', h1, h2, rfl, _⟩ | ⟨h, _⟩
        · have h3 := (hrn k' (hupd k' _ h2).1).1
          rw [h3] at hnil ⊢
          exact .inl ⟨k', e', hBo k' e' h1, hnil, rfl⟩
        · cases h
      | none =>
        simp only [hl] at hk
        have hnk : k ∉ dV ρ own ∧ k ∉ us := by
          constructor
          · intro h; have := hUk k (.inl h); rw [hl] at this; cases this
          · intro h; have := hUk k (.inr h); rw [hl] at this; cases this
        rw [hα2 k (hs.oko k e hk).1] at hnil ⊢
        refine .inr ⟨.inl ⟨k, e, hk, hnil, rfl⟩, fun h => hnk.1 (hlinj _ h k e hk hnil rfl), fun k2 hk2 ⟨e2, he2⟩ hnil2 hbb => ?_⟩
        have := hs.inj _ _ _ _ (hSu k2 hk2 e2 he2) hk hnil2 hnil hbb
        exact hnk.2 (this ▸ hk2)
    · refine .inr ⟨.inr hx, fun h => hl0 b h hx, fun k2 hk2 ⟨e2, he2⟩ hnil2 hbb => ?_⟩
      exact (hs.mine _ _ (hSu k2 hk2 e2 he2) hnil2).2 (hbb ▸ hx)
  refine ⟨_, rfl, α2, ?_⟩
  refine hs.upd _ (fun k hk => .inl hk) α2 w' dst hd (ta (rs.map (AV.rn ρ nm))) U _ hα2 hb.grow hb.os hb.tape hb.output ?_ ?_ ?_ ?_ ?_ ?_ ?_
  · intro b hblt hno
    refine hb.fr b hblt ?_
    rintro ⟨k, oe, hl, hnil, rfl⟩
    obtain ⟨e2, e, _, _, h3, _⟩ := hSk k oe hl
    exact hno _ e h3 (hUk _ (.inl (iL hl))) hnil rfl
  · intro k e hl
    rcases hUe k _ hl with ⟨k', e', h1, h2, rfl, _⟩ | ⟨h, _⟩
    · exact (hrn k' (hupd k' _ h2).1).2
    · cases h
  · intro k e hl hnil
    rcases hUe k _ hl with ⟨k', e', h1, h2, rfl, _⟩ | ⟨h, _⟩
    · have h3 := (hrn k' (hupd k' _ h2).1).1
      rw [h3] at hnil ⊢
      rcases (hb.mine k' e' (hBo k' e' h1) hnil).1 with hge | ⟨k0, oe, hl0', hnil0, hb0⟩
      · exact .inl hge
      · obtain ⟨e2, e3, _, _, h5, _⟩ := hSk k0 oe hl0'
        exact .inr ⟨_, e3, h5, hUk _ (.inl (iL hl0')), hnil0, hb0⟩
    · cases h
  · intro k e k2 e2 hl hl2 hnil hnil2 hbb
    rcases hUe k _ hl with ⟨k', e', h1, h2, rfl, _⟩ | ⟨h, _⟩
    · rcases hUe k2 _ hl2 with ⟨k2', e2', h3, h4, rfl, _⟩ | ⟨h, _⟩
      · rw [(hrn k' (hupd k' _ h2).1).1] at hnil hbb
        rw [(hrn k2' (hupd k2' _ h4).1).1] at hnil2 hbb
        rw [hb.inj _ _ _ _ (hBo k' e' h1) (hBo k2' e2' h3) hnil hnil2 hbb]
      · cases h
    · cases h
  · intro _ k e hl
    rcases hUe k _ hl with ⟨k', e', h1, h2, rfl, he'⟩ | ⟨h, _⟩
    · cases he'
      obtain ⟨hkn, e3, h5, h6⟩ := hupd k' _ h2
      cases h5
      refine ⟨JE (hb.own k' e' (hBo k' e' h1)) h6 (fun b hbo hx => hXC _ b hbo hx) (hrn k' hkn).1 fun k hk => (hrn k hk).1, fun x hx => ?_⟩
      cases e' with
      | box cs T0 =>
        obtain ⟨a, ha, rfl⟩ := List.mem_map.1 (show x ∈ cs.map (AV.rn ρ nm) from hx)
        exact (h6 a ha).okr _ fun k hk => (hrn k hk).2
      | arr => cases hx
      | buf => cases hx
      | iset => cases hx
      | iters => cases hx
    · cases h
  · intro _
    have hrs : ∀ (j : Nat) (r : AV), rs[j]? = some r → co w' α2 (XX α2 (S.upd dst (ta (rs.map (AV.rn ρ nm))) U).own X0) (r.rn ρ nm) (us'.getD j undef) := by
      intro j r hj
      have := hb.env j r (by have := rr rs 0 j r hj; simpa [AS.ss] using this)
      exact (hren r (Ni hj)).rd w' α2 α' _ _ _ this (fun b hbo hx => hXC _ b hbo hx) fun k hk => (hrn k hk).1
    have hsz' := hb.size
    simp only at hsz'
    unfold ta
    split
    · rename_i r1 hr1
      obtain ⟨r, rfl⟩ : ∃ r, rs = [r] := by
        match rs, hr1 with
        | [r], _ => exact ⟨r, rfl⟩
      simp at hr1; subst hr1
      have := hrs 0 r rfl
      have h1 : us'.size = 1 := by simpa using hsz'
      have e1 : kB us' = us'.getD 0 undef := by simp [kB, h1, Array.getD]
      rw [e1]; exact this
    · rename_i hne
      have h1 : us'.size ≠ 1 := by
        intro h
        rw [hsz'] at h
        match rs, h, hne with
        | [r], _, hne => exact hne _ rfl
      have e1 : kB us' = .tuple us' := by simp [kB, h1]
      rw [e1]
      refine .tup _ _ (by simp [hsz']) fun j c v hc hv => ?_
      simp only [List.getElem?_map, Nk] at hc
      obtain ⟨r, hr, rfl⟩ := hc
      have := hrs j r hr
      have e2 : us'.getD j undef = v := by simp [Array.getD_eq_getD_getElem?, hv]
      rw [e2] at this; exact this
  · have hok : ∀ r, r ∈ rs → (r.rn ρ nm).ok fun k => p k ∨ oo nm k := fun r hr => (hren r hr).okr _ fun k hk => (hrn k hk).2
    unfold ta
    split
    · rename_i r1 hr1
      obtain ⟨r, rfl⟩ : ∃ r, rs = [r] := by
        match rs, hr1 with
        | [r], _ => exact ⟨r, rfl⟩
      simp at hr1; subst hr1
      exact hok r (by simp)
    · refine .tup _ fun c hc => ?_
      obtain ⟨r, hr, rfl⟩ := List.mem_map.1 hc
      exact hok r hr
theorem zp {f : FuncId} {as : List AV} (hE : yM C n o st f as) (h : Ap C (Calls C.P f) st nm f as K) : ∃ out upd rd, K out upd rd ∧ cr C n o nm st rd out upd := by
  obtain ⟨out, upd, rd, hk, hbody, hnm, hpt⟩ := xI (fun h hr => h.mono hr) h
  refine ⟨out, upd, rd, hk, hnm, fun X0 F w0 p α S a w Q next hs he ho' hp hd hn => ?_⟩
  obtain ⟨vs, hvl, hvr, hrun⟩ := hE hbody X0 F w0 p α S a w hs he
  refine hrun next Q ((hpt n X0 F w0 p α S a w hs ho' hp vs hvl hvr o.dst hd).mono ?_)
  rintro e w' ⟨v, rfl, α', hS⟩
  exact ⟨v, rfl, hn α' v w' hS⟩
theorem yK {β:Type}{l:List (Nat×β)}{x:Nat}{K K':β→Prop}(hk:∀v,K v→K' v)(h:aW l x K):aW l x K':=by induction l with|nil=>cases h;|cons y l ih=>
 obtain⟨y,u⟩:=y;simp only[aW] at h⊢;cases hb:Nat.beq x y<;>simp only[hb] at h⊢;·exact ih h
 ·exact hk _ h
theorem xb {a:AV}{K K':D→List Nat→Prop}(hk:∀d us,K d us→K' d us)(h:K2 st a K):K2 st a K':=by
 unfold K2 at h⊢;split at h;·exact hk _ _ h
 ·exact hk _ _ h
 ·refine yK (fun oe h=>?_) h;cases oe with|none=>cases h;|some e=>cases e with|buf s xs=>exact hk _ _ h;|_=>cases h
 ·cases h
theorem DM {l:List AV}{K K':List D→List Nat→Prop}(hk:∀d us,K d us→K' d us)(h:GQ st l K):GQ st l K':=by induction l generalizing K K' with|nil=>exact hk _ _ h;|cons a l ih=>refine xb (fun d us h=>ih (fun ds vs h=>?_) h) h;split at h<;>exact hk _ _ h
theorem CN {a:AV}{K K':D→List Nat→Prop}(hk:∀d us,K d us→K' d us)(h:nM st a K):nM st a K':=by
 unfold nM at h⊢;split at h;·exact DM (fun _ _ h=>hk _ _ h) h
 ·exact xb hk h
theorem zY {l:List AV}{K K':List D→List Nat→Prop}(hk:∀d us,K d us→K' d us)(h:p7 st l K):p7 st l K':=by induction l generalizing K K' with|nil=>exact hk _ _ h;|cons a l ih=>refine CN (fun d us h=>ih (fun ds vs h=>?_) h) h;split at h<;>exact hk _ _ h
theorem Jx {f : FuncId} {as : List AV} (hE : yM C n o st f as) (hS : (∃ out, KF C f as out ∧ K out [] []) → ∃ out upd rd, K out upd rd ∧ cr C n o nm st rd out upd) (h : goK C st nm f as K) : ∃ out upd rd, K out upd rd ∧ cr C n o nm st rd out upd := by
  have core : od C st nm f as K → ∃ out upd rd, K out upd rd ∧ cr C n o nm st rd out upd := by
    intro h
    rcases h.out with h1 | h1
    · exact zp hE h1
    · exact hS h1
  unfold goK at h
  split at h
  · split at h
    · exact core h
    · by_cases hc : od C st nm f as K
      · exact core hc
      · refine DK (nm := nm) hE ?_
        refine zY (fun ds us hk => ?_) h
        rcases hk.out with h | h
        · exact h
        · exact absurd h hc
  · exact core h
theorem C6 {f:FuncId}{fn:Func}(hf:C.P.funcs[f]?=some fn)(h1:(fn.name== "runtime.NumGoroutine")=false)(h2:fn.body.isNone=false)(w:World)(args:Array Value):(callFunc f args).run C.P w=.ok (.enter f args) w:=by
 have h1':¬fn.name= "runtime.NumGoroutine":=by intro h;rw[h] at h1;simp at h1
 have h2':¬fn.body=none:=by intro h;rw[h] at h2;simp at h2
 simp[callFunc,hf,h1',h2']
def fnK (st:AS)(x:Operand)(K:FuncId→List AV→List AV→Prop):Prop:=fF st x fun a=>match a with|.fn g pre post=>(match g with|.func f=>K f pre post|_=>False)|_=>False
def AO (l m:List AV)(K:List AV→Prop):Prop:=match l with|[]=>K m|x::r=>AO r m fun r=>K (x::r)
theorem s8 {l m:List AV}{K:List AV→Prop}(h:AO l m K):K (l++m):=by induction l generalizing K with|nil=>exact h;|cons x l ih=>exact ih (K:=fun r=>K (x::r)) h
def JU (pre as post : List AV) (K : List AV → Prop) : Prop :=
  match pre, post with
  | [], [] => K as
  | pre, post => AO as post fun r => AO pre r K
theorem Fi {pre as post : List AV} {K : List AV → Prop} (h : JU pre as post K) : K (pre ++ as ++ post) := by
  unfold JU at h
  split at h
  · simpa using h
  · have := s8 (s8 h)
    rw [List.append_assoc]; exact this
theorem FG {c : Call} {x : Operand} (ho : o.op = .call c) (hc : c.callee = .value x) (h : fnK st x fun f pre post => NS st c.args.toList fun as => JU pre as post fun as => goK C st nm f as K) :
    ∃ out upd rd, K out upd rd ∧ cr C n o nm st rd out upd := by
  unfold fnK at h
  replace h := bx h; obtain ⟨va, h1, h⟩ := h
  split at h
  · rename_i g pre post
    split at h
    · rename_i f
      replace h := j9 h; obtain ⟨as, h2, h⟩ := h
      replace h := Fi h
      have base : ∀ (X0 : Nat → Prop) (F : Fr) (w0 : World) (p : Nat → Prop) (α : Nat → dh) (S : SS) (a : Act) (w : World), dn C.G X0 F w0 n p α S a w → (∀ t, Operand.tmp t ∈ o.op.operands → ∀ av, st.ss.env t = some av → S.env t = some av) →
          ∃ vs : Array Value, (pre ++ as ++ post).length = vs.size ∧ (∀ (j : Nat) (av : AV) (v : Value), (pre ++ as ++ post)[j]? = some av → vs[j]? = some v → co w α (XX α S.own X0) av v) ∧ (∀ av, av ∈ pre ++ as ++ post → av.ok p) ∧
            ∀ bQ, (callFunc f vs).run C.P w = .ok bQ w → (execOp a.eval o).run C.P w = .ok bQ w := by
        intro X0 F w0 p α S a w hs he
        have hm1 : x ∈ o.op.operands := by rw [ho]; simp [Op.operands, Call.operands, hc]
        have hmem : ∀ y, y ∈ c.args.toList → y ∈ o.op.operands := by
          intro y hy
          rw [ho]
          simp [Op.operands, Call.operands, hc] at hy ⊢
          exact .inr hy
        have hr := (h1.to hm1 he).read hs
        have hk := (h1.to hm1 he).ok hs
        generalize hx : a.eval x = v at hr
        cases hk with
        | fn _ _ _ k1 k2 =>
        cases hr with
        | fn _ _ _ va vb l1 l2 c1 c2 =>
          refine ⟨va ++ c.args.map a.eval ++ vb, ?_, fun j av v hj hv => ?_, fun av hav => ?_, fun bQ hn => ?_⟩
          · have := h2.length; simp only [Array.length_toList] at this; simp; omega
          · have h2l := h2.length
            simp only [Array.length_toList] at h2l
            rw [Array.getElem?_append] at hv
            rw [List.getElem?_append] at hj
            simp only [Array.size_append, Array.size_map, Na] at hv hj
            split at hj
            · rename_i hlt
              rw [if_pos (by omega)] at hv
              rw [Array.getElem?_append] at hv
              rw [List.getElem?_append] at hj
              split at hj
              · rename_i hlt2
                rw [if_pos (by omega)] at hv
                exact c1 j av v hj hv
              · rename_i hlt2
                rw [if_neg (by omega)] at hv
                obtain ⟨y, hy, hye⟩ := h2.get _ av hj
                simp only [Array.getElem?_map, Nk] at hv
                obtain ⟨y', hy', rfl⟩ := hv
                rw [Array.getElem?_toList, l1] at hy
                rw [hy] at hy'; cases hy'
                exact (hye.to (hmem y (Ni (by rw [Array.getElem?_toList]; exact hy))) he).read hs
            · rename_i hlt
              rw [if_neg (by omega)] at hv
              refine c2 _ av v hj ?_
              rw [← hv]; congr 1; omega
          · rcases Np.1 hav with hav | hav
            · rcases Np.1 hav with hav | hav
              · exact k1 av hav
              · obtain ⟨j, hj⟩ := List.mem_iff_getElem?.1 hav
                obtain ⟨y, hy, hye⟩ := h2.get j av hj
                exact (hye.to (hmem y (Ni hy)) he).ok hs
            · exact k2 av hav
          · rw [Array.append_assoc] at hn
            simp [execOp, ho, resolve, hc, hx, Deferred.ofValue, invoke, hn]
      refine Jx ?_ ?_ h
      · rintro ⟨fn, hf, hf1, hf2⟩ X0 F w0 p α S a w hs he
        obtain ⟨vs, hl, hr, _, hrun⟩ := base X0 F w0 p α S a w hs he
        refine ⟨vs, hl, hr, fun next Q hcalls => ?_⟩
        unfold Oper.wp
        rw [hrun _ (C6 hf hf1 hf2 w vs)]
        exact hcalls.mono fun e w' ⟨v, he, hn⟩ => by subst he; exact hn
      · rintro ⟨out, hext, hk⟩
        refine ⟨_, _, _, hk, cr.pure fun X0 F w0 p α S a w hs he _ => ?_⟩
        obtain ⟨vs, hl, hr, hok, hrun⟩ := base X0 F w0 p α S a w hs he
        obtain ⟨v, h1, h2, h3⟩ := hext w α _ p vs hl hr hok
        exact ⟨v, hrun _ h1, h2, h3⟩
    · cases h
  · cases h
theorem Eh {fn : Fn} {first captured : Array Operand} (ho : o.op = .makeFunc fn first captured) (h : NS st first.toList fun as => NS st captured.toList fun bs => K (.fn fn as bs) [] []) :
    ∃ out upd rd, K out upd rd ∧ cr C n o nm st rd out upd := by
  replace h := j9 h; obtain ⟨as, h1, h⟩ := h
  replace h := j9 h; obtain ⟨bs, h2, h⟩ := h
  refine ⟨_, _, _, h, cr.pure fun X0 F w0 p α S a w hs he _ => ?_⟩
  have key : ∀ (ops : Array Operand) (as : List AV), Dr st.ss.env ops.toList as → (∀ y, y ∈ ops.toList → y ∈ o.op.operands) →
      as.length = (ops.map a.eval).size ∧ (∀ (j : Nat) (c : AV) (v : Value), as[j]? = some c → (ops.map a.eval)[j]? = some v → co w α (XX α S.own X0) c v) ∧ ∀ c, c ∈ as → c.ok p := by
    intro ops as h1 hmem
    refine ⟨by have := h1.length; simpa using this, fun j c v hj hv => ?_, fun c hc => ?_⟩
    · obtain ⟨y, hy, hye⟩ := h1.get j c hj
      simp only [Array.getElem?_map, Nk] at hv
      obtain ⟨y', hy', rfl⟩ := hv
      rw [Array.getElem?_toList] at hy
      rw [hy] at hy'; cases hy'
      exact (hye.to (hmem y (Ni (by rw [Array.getElem?_toList]; exact hy))) he).read hs
    · obtain ⟨j, hj⟩ := List.mem_iff_getElem?.1 hc
      obtain ⟨y, hy, hye⟩ := h1.get j c hj
      exact (hye.to (hmem y (Ni hy)) he).ok hs
  have m1 : ∀ y, y ∈ first.toList → y ∈ o.op.operands := fun y hy => by rw [ho]; simp only [Op.operands, Array.mem_append]; exact .inl (by simpa using hy)
  have m2 : ∀ y, y ∈ captured.toList → y ∈ o.op.operands := fun y hy => by rw [ho]; simp only [Op.operands, Array.mem_append]; exact .inr (by simpa using hy)
  obtain ⟨l1, r1, k1⟩ := key first as h1 m1
  obtain ⟨l2, r2, k2⟩ := key captured bs h2 m2
  exact ⟨.func fn (first.map a.eval) (captured.map a.eval), by simp [execOp, ho, Instr.makeFunc], .fn _ _ _ _ _ l1 l2 r1 r2, .fn _ _ _ k1 k2⟩
end
end Go.Eng
