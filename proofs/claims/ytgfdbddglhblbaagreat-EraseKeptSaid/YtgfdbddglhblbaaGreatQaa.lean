/- A part of the proof of what is stated of the erasing of a mirror. -/
import Derived.Below
import Derived.MapKept
import Derived.Calls
import Derived.Orders
import Derived.Laws.Sem
set_option maxHeartbeats 64000000
namespace Go.Eng
theorem Na:type_of%@List.length_append.{0}:=@List.length_append.{0}
theorem Nb:type_of%@List.length_cons.{0}:=@List.length_cons.{0}
theorem Nc:type_of%@List.getElem?_eq_some_iff.{0}:=@List.getElem?_eq_some_iff.{0}
theorem Nd:type_of%@Nat.eq_of_beq_eq_true:=@Nat.eq_of_beq_eq_true
theorem Nf:type_of%@List.length_nil.{0}:=@List.length_nil.{0}
theorem Ng:type_of%@List.map_append.{0,0}:=@List.map_append.{0,0}
theorem Nh:type_of%@List.take_succ_eq_append_getElem.{0}:=@List.take_succ_eq_append_getElem.{0}
theorem Ni:type_of%@List.mem_of_getElem?.{0}:=@List.mem_of_getElem?.{0}
theorem Nj:type_of%@List.length_take.{0}:=@List.length_take.{0}
theorem Nk:type_of%@Option.map_eq_some_iff.{0,0}:=@Option.map_eq_some_iff.{0,0}
theorem Nl:type_of%@List.length_map.{0,0}:=@List.length_map.{0,0}
theorem No:type_of%@List.getElem?_eq_getElem.{0}:=@List.getElem?_eq_getElem.{0}
theorem Np:type_of%@List.mem_append.{0}:=@List.mem_append.{0}
theorem Nq:type_of%@Classical.not_not:=@Classical.not_not
theorem Nr:type_of%@List.getElem_mem.{0}:=@List.getElem_mem.{0}
theorem Ns:type_of%@List.set_set.{0}:=@List.set_set.{0}
theorem Nt:type_of%@List.take_of_length_le.{0}:=@List.take_of_length_le.{0}
theorem Nu:type_of%@Option.bind_eq_some_iff.{0,0}:=@Option.bind_eq_some_iff.{0,0}
theorem Nv:type_of%@List.mem_cons_of_mem.{0}:=@List.mem_cons_of_mem.{0}
theorem Nw:type_of%@List.map_cons.{0,0}:=@List.map_cons.{0,0}
theorem Nx:type_of%@List.mem_singleton.{0}:=@List.mem_singleton.{0}
theorem Ny:type_of%@List.drop_eq_getElem_cons.{0}:=@List.drop_eq_getElem_cons.{0}
theorem Nz:type_of%@List.length_drop.{0}:=@List.length_drop.{0}
theorem NA:type_of%@List.length_singleton.{0}:=@List.length_singleton.{0}
theorem NB:type_of%@List.take_append_drop.{0}:=@List.take_append_drop.{0}
theorem NC:type_of%@List.length_filter_le.{0}:=@List.length_filter_le.{0}
theorem ND:type_of%@List.take_length.{0}:=@List.take_length.{0}
end Go.Eng
namespace Go.Eng
inductive D where|b (t:Bool)|i (k:IntKind)(n:Int)|s (l:List UInt8)|sl (sz:Nat)(xs:List D)|agg (cs:List D)|x (v:Value)
instance:Inhabited D:=⟨.b false⟩
def D.cells:D→List D|.agg cs=>cs|d=>[d]
def D.one:D→Bool|.agg _=>false|.x v=>v.oneCell'|_=>true
def D.wd (sz:Nat)(x:D):Prop:=x.cells.length=sz∧∀c,c∈x.cells→c.one=true
inductive Rd (w:World)(X:Nat→Prop):D→Value→Prop where|b (t:Bool):Rd w X (.b t) (.bool t)|i (k:IntKind)(n:Int):Rd w X (.i k n) (.int k n)|s (l:List UInt8):Rd w X (.s l) (.string ⟨l.toArray⟩)|x (v:Value):Rd w X (.x v) v|agg (cs:List D)(vs:Array Value):cs.length=vs.size→(∀(j:Nat)(c:D)(v:Value),cs[j]?=some c→vs[j]?=some v→Rd w X c v)→Rd w X (.agg cs) (.agg vs)|slnil (sz:Nat):Rd w X (.sl sz []) (.slice none 0 0)|sle (sz:Nat)(a:Addr)(cap:Nat):Rd w X (.sl sz []) (.slice (some a) 0 cap)|sl (sz:Nat)(xs:List D)(blk off n cap:Nat)(arr:Array Value)(T:TypeId)(fz:Nat×Nat)(f:Nat→Nat→Value):w.heap[blk]?=some (.cells arr T fz)→¬X blk→xs.length=n→n≤cap→(∀(j:Nat)(x:D),xs[j]?=some x→x.wd sz)→(∀(j m:Nat)(x c:D),xs[j]?=some x→x.cells[m]?=some c→arr[off+j*sz+m]?=some (f j m))→(∀(j m:Nat)(x c:D),xs[j]?=some x→x.cells[m]?=some c→Rd w X c (f j m))→Rd w X (.sl sz xs) (.slice (some ⟨blk,off,none⟩) n cap)
theorem Rd.mono {w w':World}{X X':Nat→Prop}(hw:∀b o,w.heap[b]?=some o→¬X b→w'.heap[b]?=some o∧¬X' b){d:D}{v:Value}(h:Rd w X d v):Rd w' X' d v:=by induction h with|b t=>exact .b t;|i k n=>exact .i k n;|s l=>exact .s l;|x v=>exact .x v;|agg cs vs hl _ ih=>exact .agg cs vs hl ih;|slnil sz=>exact .slnil sz;|sle sz a cap=>exact .sle sz a cap;|sl sz xs blk off n cap arr T fz f hh hx hl hc hw1 ha _ ih=>exact .sl sz xs blk off n cap arr T fz f (hw _ _ hh hx).1 (hw _ _ hh hx).2 hl hc hw1 ha ih
inductive AV where|any|ab|ap|d (x:D)|agg (cs:List AV)|op (k i j:Nat)|os (k:Nat)|nl (sz:Nat)|pp (x:D)(j:Nat)|gp (g:Nat)|tup (vs:List AV)|fn (f:Fn)(first captured:List AV)
instance:Inhabited AV:=⟨.any⟩
def AV.cells:AV→List AV|.agg cs=>cs|.d (.agg cs)=>cs.map .d|a=>[a]
def AV.one:AV→Bool|.any|.agg _|.tup _=>false|.d x=>x.one|_=>true
structure dh where
 blk:Nat
 off:Nat
 sz:Nat
 nil:Bool
 hv:Value
inductive aS where|box (cs:List AV)(T:Option TypeId:=none)|arr (sz:Nat)(xs:List D)|buf (sz:Nat)(xs:List D)(T:Option TypeId:=none)|iset (ks:List Int)|iters (s:List UInt8)(pos:Nat)
def ISet (ks:List Int)(o:Obj):Prop:=∃es clock,o=.map es clock∧es.toList.map (·.key)=ks.map (.int .i64)∧(∀x∈es.toList,x.val=.bool true)∧MapKept.Stamped es clock
def K0 (s:List UInt8)(pos:Nat)(o:Obj):Prop:=o=.stringIter ⟨s.toArray⟩ pos
def aS.obj:aS→Option ((Obj→Prop)×Bool)|.iset ks=>some (ISet ks,true)|.iters s pos=>some (K0 s pos,false)|_=>none
def aS.cell:aS→Nat→Nat→Option AV|.box cs _,i,j=>if i=0 then cs[j]? else none|.arr _ xs,i,j=>(xs[i]?).bind fun x=>(x.cells[j]?).map .d|.buf _ xs _,i,j=>(xs[i]?).bind fun x=>(x.cells[j]?).map .d|.iset _,_,_=>none|.iters _ _,_,_=>none
def aS.sz:aS→Nat|.box cs _=>cs.length|.arr sz _=>sz|.buf sz _ _=>sz|.iset _=>0|.iters _ _=>0
def aS.len:aS→Nat|.box _ _=>1|.arr _ xs=>xs.length|.buf _ xs _=>xs.length|.iset _=>0|.iters _ _=>0
def aS.wide:aS→Prop|.box cs _=>∀c,c∈cs→c.one=true|.arr sz xs=>∀(j:Nat)(x:D),xs[j]?=some x→x.wd sz|.buf sz xs _=>∀(j:Nat)(x:D),xs[j]?=some x→x.wd sz|.iset _=>False|.iters _ _=>False
def aS.ty:aS→Option TypeId|.box _ T=>T|.buf _ _ T=>T|_=>none
def aS.vars:aS→List AV|.box cs _=>cs|_=>[]
inductive co (w : World) (α : Nat → dh) (X : Nat → Prop) : AV → Value → Prop where
  | any (v : Value) : co w α X .any v
  | ab (t : Bool) : co w α X .ab (.bool t)
  | ap (p : Option Addr) : co w α X .ap (.pointer p)
  | d (x : D) (v : Value) : Rd w X x v → co w α X (.d x) v
  | agg (cs : List AV) (vs : Array Value) : cs.length = vs.size → (∀ (j : Nat) (c : AV) (v : Value), cs[j]? = some c → vs[j]? = some v → co w α X c v) → co w α X (.agg cs) (.agg vs)
  | op (k i j : Nat) : co w α X (.op k i j) (.pointer (some ⟨(α k).blk, (α k).off + i * (α k).sz + j, none⟩))
  | os (k : Nat) : (α k).hv.oneCell' = true → co w α X (.os k) (α k).hv
  | nl (sz : Nat) : co w α X (.nl sz) (.slice none 0 0)
  | pp (x : D) (i : Nat) (blk off : Nat) (arr : Array Value) (T : TypeId) (fz : Nat × Nat) (f : Nat → Value) :
      w.heap[blk]? = some (.cells arr T fz) → ¬ X blk →
      (∀ (j : Nat) (c : D), x.cells[j]? = some c → arr[off + j]? = some (f j)) → (∀ (j : Nat) (c : D), x.cells[j]? = some c → Rd w X c (f j)) →
      co w α X (.pp x i) (.pointer (some ⟨blk, off + i, none⟩))
  | gp (g : Nat) : co w α X (.gp g) (.pointer (some ⟨g, 0, none⟩))
  | tup (cs : List AV) (vs : Array Value) : cs.length = vs.size → (∀ (j : Nat) (c : AV) (v : Value), cs[j]? = some c → vs[j]? = some v → co w α X c v) → co w α X (.tup cs) (.tuple vs)
  | fn (g : Fn) (as bs : List AV) (va vb : Array Value) : as.length = va.size → bs.length = vb.size →
      (∀ (j : Nat) (c : AV) (v : Value), as[j]? = some c → va[j]? = some v → co w α X c v) →
      (∀ (j : Nat) (c : AV) (v : Value), bs[j]? = some c → vb[j]? = some v → co w α X c v) → co w α X (.fn g as bs) (.func g va vb)
inductive AV.ok (p : Nat → Prop) : AV → Prop where
  | any : AV.ok p .any
  | ab : AV.ok p .ab
  | ap : AV.ok p .ap
  | d (x : D) : AV.ok p (.d x)
  | agg (cs : List AV) : (∀ c, c ∈ cs → AV.ok p c) → AV.ok p (.agg cs)
  | op (k i j : Nat) : p k → AV.ok p (.op k i j)
  | os (k : Nat) : p k → AV.ok p (.os k)
  | nl (sz : Nat) : AV.ok p (.nl sz)
  | pp (x : D) (i : Nat) : AV.ok p (.pp x i)
  | gp (g : Nat) : AV.ok p (.gp g)
  | tup (cs : List AV) : (∀ c, c ∈ cs → AV.ok p c) → AV.ok p (.tup cs)
  | fn (g : Fn) (as bs : List AV) : (∀ c, c ∈ as → AV.ok p c) → (∀ c, c ∈ bs → AV.ok p c) → AV.ok p (.fn g as bs)
theorem AV.ok.mono {p q : Nat → Prop} (h : ∀ k, p k → q k) {a : AV} (ha : a.ok p) : a.ok q := by
  induction ha with
  | any => exact .any
  | ab => exact .ab
  | ap => exact .ap
  | d x => exact .d x
  | agg cs _ ih => exact .agg cs ih
  | op k i j hk => exact .op k i j (h k hk)
  | os k hk => exact .os k (h k hk)
  | nl sz => exact .nl sz
  | pp x i => exact .pp x i
  | gp g => exact .gp g
  | tup cs _ ih => exact .tup cs ih
  | fn g as bs _ _ ih1 ih2 => exact .fn g as bs ih1 ih2
theorem AV.ok.cell {p : Nat → Prop} {a : AV} (ha : a.ok p) {m : Nat} {c : AV} (hc : a.cells[m]? = some c) : c.ok p := by
  have hm := Ni hc
  cases ha with
  | any => simp [AV.cells] at hm; subst hm; exact .any
  | ab => simp [AV.cells] at hm; subst hm; exact .ab
  | ap => simp [AV.cells] at hm; subst hm; exact .ap
  | d x =>
    cases x with
    | agg cs => simp [AV.cells] at hm; obtain ⟨y, _, rfl⟩ := hm; exact .d y
    | _ => simp [AV.cells] at hm; subst hm; exact .d _
  | agg cs h => exact h c hm
  | op k i j hk => simp [AV.cells] at hm; subst hm; exact .op k i j hk
  | os k hk => simp [AV.cells] at hm; subst hm; exact .os k hk
  | nl sz => simp [AV.cells] at hm; subst hm; exact .nl sz
  | pp x i => simp [AV.cells] at hm; subst hm; exact .pp x i
  | gp g => simp [AV.cells] at hm; subst hm; exact .gp g
  | tup cs h => simp [AV.cells] at hm; subst hm; exact .tup cs h
  | fn g as bs h1 h2 => simp [AV.cells] at hm; subst hm; exact .fn g as bs h1 h2
theorem co.mono {w w' : World} {α α' : Nat → dh} {X X' : Nat → Prop} {p : Nat → Prop}
    (hw : ∀ b o, w.heap[b]? = some o → ¬ X b → w'.heap[b]? = some o ∧ ¬ X' b) (hα : ∀ k, p k → α' k = α k)
    {a : AV} {v : Value} (h : co w α X a v) (ha : a.ok p) : co w' α' X' a v := by
  induction h with
  | any v => exact .any v
  | ab t => exact .ab t
  | ap q => exact .ap q
  | d x v h => exact .d x v (h.mono hw)
  | agg cs vs hl _ ih => cases ha with | agg _ hc => exact .agg cs vs hl fun j c v h1 h2 => ih j c v h1 h2 (hc c (Ni h1))
  | op k i j => cases ha with | op _ _ _ hk => rw [← hα k hk]; exact .op k i j
  | os k ho => cases ha with | os _ hk => rw [← hα k hk] at ho ⊢; exact .os k ho
  | nl sz => exact .nl sz
  | pp x i blk off arr T fz f hh hx h1 h2 => exact .pp x i blk off arr T fz f (hw _ _ hh hx).1 (hw _ _ hh hx).2 h1 fun j c hc => (h2 j c hc).mono hw
  | gp g => exact .gp g
  | tup cs vs hl _ ih => cases ha with | tup _ hc => exact .tup cs vs hl fun j c v h1 h2 => ih j c v h1 h2 (hc c (Ni h1))
  | fn g as bs va vb h1 h2 _ _ ih1 ih2 =>
    cases ha with
    | fn _ _ _ hc1 hc2 => exact .fn g as bs va vb h1 h2 (fun j c v x y => ih1 j c v x y (hc1 c (Ni x))) fun j c v x y => ih2 j c v x y (hc2 c (Ni x))
theorem aS.cell_ok {p:Nat→Prop}{e:aS}(h:∀x,x∈e.vars→x.ok p){j m:Nat}{c:AV}(hc:e.cell j m=some c):c.ok p:=by cases e with
 |box cs T=>
 simp only[aS.cell] at hc;split at hc;·exact h c (Ni hc)
 ·cases hc;|arr sz xs=>simp only[aS.cell,Nu,Nk] at hc;obtain⟨x,_,y,_,rfl⟩:=hc;exact .d y;|buf sz xs T=>simp only[aS.cell,Nu,Nk] at hc;obtain⟨x,_,y,_,rfl⟩:=hc;exact .d y;|iset ks=>cases hc;|iters s pos=>cases hc
structure J4 (w:World)(α:Nat→dh)(X:Nat→Prop)(l:dh)(e:aS)(arr:Array Value)(T:TypeId)(fz:Nat×Nat)(cap:Nat):Prop where
 heap:w.heap[l.blk]?=some (.cells arr T fz)hsz:l.sz=e.sz
 len:e.len≤cap
 bnd:l.off+cap*e.sz≤arr.size
 nf:fz.1≤fz.2∧∀o,l.off≤o→o<l.off+cap*e.sz→¬(fz.1≤o∧o<fz.2)wid:e.wide
 rd:∀(j m:Nat)(c:AV),e.cell j m=some c→∃v,arr[l.off+j*e.sz+m]?=some v∧co w α X c v
 hv:∀sz xs T,e=.buf sz xs T→l.hv=.slice (some ⟨l.blk,l.off,none⟩) xs.length cap
 hone:l.hv.oneCell'=true
 ty:∀U,e.ty=some U→T=U∧l.off=0∧∀cs V,e=.box cs V→arr.size=cs.length
def hvO (mp:Bool)(b:Nat):Value:=match mp with|true=>.map (some b)|false=>.pointer (some ⟨b,0,none⟩)
structure C8 (w:World)(l:dh)(Q:Obj→Prop)(mp:Bool):Prop where
 nil:l.nil=false
 hv:l.hv=hvO mp l.blk
 obj:∃o,w.heap[l.blk]?=some o∧Q o
def K1 (w:World)(α:Nat→dh)(X:Nat→Prop)(k:Nat)(e:aS):Prop:=((α k).nil=true∧(∃sz T,e=.buf sz [] T)∧(α k).hv=.slice none 0 0)∨((α k).nil=false∧∃arr T fz cap,J4 w α X (α k) e arr T fz cap)
def lj (w:World)(α:Nat→dh)(X:Nat→Prop)(k:Nat)(e:aS):Prop:=match e with|.iset ks=>C8 w (α k) (ISet ks) true|.iters s pos=>C8 w (α k) (K0 s pos) false|e=>K1 w α X k e
theorem lj.ofC {w:World}{α:Nat→dh}{X:Nat→Prop}{k:Nat}{e:aS}(h:K1 w α X k e):lj w α X k e:=by cases e with|iset ks=>rcases h with⟨_,⟨_,_,h⟩,_⟩|⟨_,arr,T,fz,cap,h⟩;cases h;exact h.wid.elim;|iters s pos=>rcases h with⟨_,⟨_,_,h⟩,_⟩|⟨_,arr,T,fz,cap,h⟩;cases h;exact h.wid.elim;|_=>exact h
theorem lj.cases {w:World}{α:Nat→dh}{X:Nat→Prop}{k:Nat}{e:aS}(h:lj w α X k e):K1 w α X k e∨∃Q mp,e.obj=some (Q,mp)∧C8 w (α k) Q mp:=by cases e with|iset ks=>exact .inr ⟨_,_,rfl,h⟩;|iters s pos=>exact .inr ⟨_,_,rfl,h⟩;|_=>exact .inl h
theorem lj.ofO {w:World}{α:Nat→dh}{X:Nat→Prop}{k:Nat}{e:aS}{Q:Obj→Prop}{mp:Bool}(he:e.obj=some (Q,mp))(h:C8 w (α k) Q mp):lj w α X k e:=by cases e with|iset ks=>cases he;exact h;|iters s pos=>cases he;exact h;|_=>cases he
theorem C8.one {w:World}{l:dh}{Q:Obj→Prop}{mp:Bool}(h:C8 w l Q mp):l.hv.oneCell'=true:=by rw[h.hv];cases mp<;>rfl
structure SS where
 env:Nat→Option AV
 own:Nat→Option aS
def XX (α:Nat→dh)(own:Nat→Option aS)(X0:Nat→Prop)(b:Nat):Prop:=(∃k e,own k=some e∧(α k).nil=false∧(α k).blk=b)∨X0 b
structure Gl where
 g:Nat
 sz:Nat
 xs:List D
def zT (w:World)(X:Nat→Prop)(x:Gl):Prop:=∃arr T fz,w.heap[x.g]?=some (.cells arr T fz)∧arr.size=x.xs.length*x.sz∧(∀(j:Nat)(d:D),x.xs[j]?=some d→d.wd x.sz)∧∀(j m:Nat)(d c:D),x.xs[j]?=some d→d.cells[m]?=some c→∃v,arr[j*x.sz+m]?=some v∧Rd w X c v
structure Fr where
 b:Nat→Prop
 fix:Nat→Option dh
 dfs:List Deferred
instance:CoeFun Fr (fun _=>Nat→Prop):=⟨Fr.b⟩
structure dn (G:List Gl)(X0:Nat→Prop)(F:Fr)(w0:World)(n:Nat)(p:Nat→Prop)(α:Nat→dh)(S:SS)(a:Act)(w:World):Prop where
 size:a.tmps.size=n
 defers:a.defers=F.dfs
 env:∀t av,S.env t=some av→co w α (XX α S.own X0) av (a.tmps.getD t undef)ok:∀t av,S.env t=some av→av.ok p
 own:∀k e,S.own k=some e→lj w α (XX α S.own X0) k e
 oko:∀k e,S.own k=some e→p k∧∀x,x∈e.vars→x.ok p
 inj:∀k e k' e',S.own k=some e→S.own k'=some e'→(α k).nil=false→(α k').nil=false→(α k).blk=(α k').blk→k=k'
 mine:∀k e,S.own k=some e→(α k).nil=false→(w0.heap.size≤(α k).blk∨F (α k).blk)∧¬X0 (α k).blk
 x0:∀b,X0 b→b<w0.heap.size
 fr:∀b,b<w0.heap.size→¬F b→w.heap[b]?=w0.heap[b]?
 grow:w0.heap.size≤w.heap.size
 os:w.os=w0.os
 tape:w.tape=w0.tape
 output:w.output=w0.output
 gl:∀x,x∈G→x.g<w0.heap.size∧¬F x.g∧¬X0 x.g∧zT w0 (fun b=>X0 b∨F b) x
 fix:∀k l,F.fix k=some l→α k=l∧p k
 nil0:(α 14).nil=true∧(α 14).hv=.slice none 0 0∧p 14
theorem lj.lt {w:World}{α:Nat→dh}{X:Nat→Prop}{k:Nat}{e:aS}(h:lj w α X k e)(hn:(α k).nil=false):(α k).blk<w.heap.size:=by
 rcases h.cases with(⟨h,_⟩|⟨_,arr,T,fz,cap,h⟩)|⟨Q,mp,_,h⟩;·rw[hn] at h;cases h
 ·have:=h.heap;rcases Nat.lt_or_ge (α k).blk w.heap.size with hlt|hge;·exact hlt
  ·rw[Array.getElem?_eq_none hge] at this;cases this
 ·obtain⟨o,this,_⟩:=h.obj;rcases Nat.lt_or_ge (α k).blk w.heap.size with hlt|hge;·exact hlt
  ·rw[Array.getElem?_eq_none hge] at this;cases this
theorem lj.mono {w w':World}{α α':Nat→dh}{X X':Nat→Prop}{p:Nat→Prop}{k:Nat}{e:aS}(hw:∀b o,w.heap[b]?=some o→¬X b→w'.heap[b]?=some o∧¬X' b)(hα:∀k,p k→α' k=α k)(hk:p k)(he:∀x,x∈e.vars→x.ok p)(hb:(α k).nil=false→w'.heap[(α k).blk]?=w.heap[(α k).blk]?)(h:lj w α X k e):lj w' α' X' k e:=by
 rcases h.cases with(⟨h1,h2⟩|⟨h1,arr,T,fz,cap,h⟩)|⟨Q,mp,he,h⟩;·refine lj.ofC ?_;exact .inl (by rw[hα k hk];exact⟨h1,h2⟩)
 ·refine lj.ofC (.inr ⟨by rw[hα k hk];exact h1,arr,T,fz,cap,?_⟩);rw[hα k hk];refine⟨by rw[hb h1];exact h.heap,h.hsz,h.len,h.bnd,h.nf,h.wid,fun j m c hm=>?_,h.hv,h.hone,h.ty⟩;obtain⟨v,hv,hr⟩:=h.rd j m c hm;exact⟨v,hv,hr.mono hw hα (aS.cell_ok he hm)⟩
 ·refine lj.ofO he ?_;rw[hα k hk];exact⟨h.nil,h.hv,by rw[hb h.nil];exact h.obj⟩
end Go.Eng
namespace Go.Eng
def look {β:Type}:List (Nat×β)→Nat→Option β|[],_=>none|(y,v)::r,x=>match Nat.beq x y with|true=>some v|false=>look r x
theorem iP {β:Type}{l:List (Nat×β)}{x:Nat}{v:β}(h:look l x=some v):(x,v)∈l:=by induction l with|nil=>simp[look] at h;|cons y l ih=>
 obtain⟨y,u⟩:=y;simp only[look] at h;split at h;·rename_i hb;have:x=y:=Nd hb;cases h;subst this;exact List.mem_cons_self
 ·exact Nv _ (ih h)
def SS.upd (S:SS)(dst:Option Nat)(out:AV)(upd:List (Nat×Option aS)):SS:=⟨fun t=>if dst=some t then some out else S.env t,fun k=>match look upd k with|some oe=>oe|none=>S.own k⟩
theorem GD (a:Act)(dst:Option Nat)(v:Value):(a.put dst v).tmps.size=a.tmps.size:=by cases dst<;>simp[Act.put]
theorem xL (a:Act)(dst:Option Nat)(v:Value):(a.put dst v).defers=a.defers:=by cases dst<;>simp[Act.put]
theorem JZ (a:Act)(d:Nat)(v:Value)(h:d<a.tmps.size):(a.put (some d) v).tmps.getD d undef=v:=by simp[Act.put,Array.getD,h]
theorem yO (a:Act)(dst:Option Nat)(t:Nat)(v:Value)(h:dst≠some t):(a.put dst v).tmps.getD t undef=a.tmps.getD t undef:=by cases dst with|none=>rfl;|some d=>have hne:d≠t:=fun e=>h (by rw[e]);simp[Act.put,Array.getD_eq_getD_getElem?,Array.getElem?_setIfInBounds_ne hne]
theorem dn.mono {G:List Gl}{X0:Nat→Prop}{F:Fr}{w0:World}{n:Nat}{p q:Nat→Prop}{α:Nat→dh}{S:SS}{a:Act}{w:World}(h:dn G X0 F w0 n p α S a w)(hp:∀k,p k→q k):dn G X0 F w0 n q α S a w:={h with
 ok:=fun t av ht=>(h.ok t av ht).mono hp
 oko:=fun k e hk=>⟨hp k (h.oko k e hk).1,fun x hx=>((h.oko k e hk).2 x hx).mono hp⟩
 fix:=fun k l hk=>⟨(h.fix k l hk).1,hp k (h.fix k l hk).2⟩
 nil0:=⟨h.nil0.1,h.nil0.2.1,hp _ h.nil0.2.2⟩}
theorem dn.upd {G:List Gl}{X0:Nat→Prop}{F:Fr}{w0:World}{n:Nat}{p:Nat→Prop}{α:Nat→dh}{S:SS}{a:Act}{w:World}(h:dn G X0 F w0 n p α S a w)(q:Nat→Prop)(hp:∀k,p k→q k)(α':Nat→dh)(w':World)(dst:Option Nat)(hd:∀d,dst=some d→d<n)(out:AV)(upd:List (Nat×Option aS))(v:Value)(hα:∀k,p k→α' k=α k)(hgrow:w.heap.size≤w'.heap.size)(hos:w'.os=w.os)(ht:w'.tape=w.tape)(ho:w'.output=w.output)(hheap:∀b,b<w.heap.size→(∀k e,S.own k=some e→(look upd k).isSome=true→(α k).nil=false→(α k).blk≠b)→w'.heap[b]?=w.heap[b]?)(hup:∀k e,look upd k=some (some e)→q k)(hblk:∀k e,look upd k=some (some e)→(α' k).nil=false→w.heap.size≤(α' k).blk∨∃k0 e0,S.own k0=some e0∧(look upd k0).isSome=true∧(α k0).nil=false∧(α k0).blk=(α' k).blk)(hinj:∀k e k' e',look upd k=some (some e)→look upd k'=some (some e')→(α' k).nil=false→(α' k').nil=false→(α' k).blk=(α' k').blk→k=k')(hown:(∀b o,w.heap[b]?=some o→¬XX α S.own X0 b→w'.heap[b]?=some o∧¬XX α' (S.upd dst out upd).own X0 b)→∀k e,look upd k=some (some e)→lj w' α' (XX α' (S.upd dst out upd).own X0) k e∧∀x,x∈e.vars→x.ok q)(hout:(∀b o,w.heap[b]?=some o→¬XX α S.own X0 b→w'.heap[b]?=some o∧¬XX α' (S.upd dst out upd).own X0 b)→co w' α' (XX α' (S.upd dst out upd).own X0) out v)(hok:out.ok q):dn G X0 F w0 n q α' (S.upd dst out upd) (a.put dst v) w':=by
 have hlive:∀k e,S.own k=some e→look upd k=none→(S.upd dst out upd).own k=some e:=by intro k e h1 h2;simp[SS.upd,h2,h1]
 have hcase:∀k e,(S.upd dst out upd).own k=some e→look upd k=some (some e)∨(look upd k=none∧S.own k=some e):=by intro k e hk;simp only[SS.upd] at hk;cases hl:look upd k with|none=>simp only[hl] at hk;exact .inr ⟨rfl,hk⟩;|some oe=>simp only[hl] at hk;subst hk;exact .inl rfl
 have aI:∀b,XX α' (S.upd dst out upd).own X0 b→b<w.heap.size→XX α S.own X0 b:=by
  rintro b (⟨k,e,hk,hn,rfl⟩|hx) hlt
  ·rcases hcase k e hk with hl|⟨hl,hs⟩
   ·rcases hblk k e hl hn with hge|⟨k0,e0,h1,_,h3,h4⟩;·omega
    ·exact .inl ⟨k0,e0,h1,h3,h4⟩
   ·have:=hα k (h.oko k e hs).1;rw[this] at hn;exact .inl ⟨k,e,hs,hn,by rw[this]⟩
  ·exact .inr hx
 have hw:∀b o,w.heap[b]?=some o→¬XX α S.own X0 b→w'.heap[b]?=some o∧¬XX α' (S.upd dst out upd).own X0 b:=by
  intro b o hb hx;have hlt:b<w.heap.size:=by
   rcases Nat.lt_or_ge b w.heap.size with hlt|hge;·exact hlt
   ·rw[Array.getElem?_eq_none hge] at hb;cases hb
  refine⟨?_,fun hX=>hx (aI b hX hlt)⟩;rw[hheap b hlt fun k e hk _ hn he=>hx (.inl ⟨k,e,hk,hn,he⟩)];exact hb
 refine⟨?_,?_,?_,?_,?_,?_,?_,?_,h.x0,?_,Nat.le_trans h.grow hgrow,hos.trans h.os,ht.trans h.tape,ho.trans h.output,h.gl,fun k l hk=>⟨(hα k (h.fix k l hk).2).trans (h.fix k l hk).1,hp k (h.fix k l hk).2⟩,by rw[hα 14 h.nil0.2.2];exact⟨h.nil0.1,h.nil0.2.1,hp _ h.nil0.2.2⟩⟩;·rw[GD];exact h.size
 ·rw[xL];exact h.defers
 ·intro t av ht';by_cases hdt:dst=some t;·simp only[SS.upd,hdt,if_true] at ht';cases ht';rw[hdt,JZ _ _ _ (by rw[h.size];exact hd t hdt)];rw[←hdt];exact hout hw
  ·simp only[SS.upd,hdt,if_false] at ht';rw[yO _ _ _ _ hdt];exact(h.env t av ht').mono hw hα (h.ok t av ht')
 ·intro t av ht';by_cases hdt:dst=some t;·simp only[SS.upd,hdt,if_true] at ht';cases ht';exact hok
  ·simp only[SS.upd,hdt,if_false] at ht';exact(h.ok t av ht').mono hp
 ·intro k e hk;rcases hcase k e hk with hl|⟨hl,hs⟩;·exact(hown hw k e hl).1
  ·refine lj.mono hw hα (h.oko k e hs).1 (h.oko k e hs).2 (fun hn=>?_) (h.own k e hs);refine hheap _ ((h.own k e hs).lt hn) fun k1 e1 h1 h2 h3 h4=>?_;have:=h.inj k1 e1 k e h1 hs h3 hn h4;subst this;rw[hl] at h2;cases h2
 ·intro k e hk;rcases hcase k e hk with hl|⟨_,hs⟩;·exact⟨hup k _ hl,(hown hw k e hl).2⟩
  ·exact⟨hp k (h.oko k e hs).1,fun x hx=>((h.oko k e hs).2 x hx).mono hp⟩
 ·intro k e k' e' hk hk' hn hn' hb;rcases hcase k e hk with hl|⟨hl,hs⟩<;>rcases hcase k' e' hk' with hl'|⟨hl',hs'⟩;·exact hinj k e k' e' hl hl' hn hn' hb
  ·rw[hα k' (h.oko k' e' hs').1] at hn' hb;have hlt:=(h.own k' e' hs').lt hn';rcases hblk k e hl hn with hge|⟨k0,e0,h1,h2,h3,h4⟩;·omega
   ·have:=h.inj k0 e0 k' e' h1 hs' h3 hn' (h4.trans hb);subst this;rw[hl'] at h2;cases h2
  ·rw[hα k (h.oko k e hs).1] at hn hb;have hlt:=(h.own k e hs).lt hn;rcases hblk k' e' hl' hn' with hge|⟨k0,e0,h1,h2,h3,h4⟩;·omega
   ·have:=h.inj k0 e0 k e h1 hs h3 hn (h4.trans hb.symm);subst this;rw[hl] at h2;cases h2
  ·rw[hα k (h.oko k e hs).1] at hn hb;rw[hα k' (h.oko k' e' hs').1] at hn' hb;exact h.inj k e k' e' hs hs' hn hn' hb
 ·intro k e hk hn;rcases hcase k e hk with hl|⟨_,hs⟩
  ·rcases hblk k e hl hn with hge|⟨k0,e0,h1,_,h3,h4⟩;·refine⟨.inl (Nat.le_trans h.grow hge),fun hx=>?_⟩;have h1:=h.x0 _ hx;have h2:=h.grow;omega
   ·rw[←h4];exact h.mine k0 e0 h1 h3
  ·rw[hα k (h.oko k e hs).1] at hn⊢;exact h.mine k e hs hn
 ·intro b hb hF;rw[hheap b (Nat.lt_of_lt_of_le hb h.grow) ?_];·exact h.fr b hb hF
  ·intro k e h1 _ h3 h4;subst h4;rcases (h.mine k e h1 h3).1 with hge|hf;·omega
   ·exact hF hf
theorem dn.pure {G:List Gl}{X0:Nat→Prop}{F:Fr}{w0:World}{n:Nat}{p:Nat→Prop}{α:Nat→dh}{S:SS}{a:Act}{w:World}(h:dn G X0 F w0 n p α S a w)(dst:Option Nat)(hd:∀d,dst=some d→d<n)(out:AV)(v:Value)(hout:co w α (XX α S.own X0) out v)(hok:out.ok p):dn G X0 F w0 n p α (S.upd dst out []) (a.put dst v) w:=by
 have e:(S.upd dst out []).own=S.own:=by funext k;simp[SS.upd,look]
 exact h.upd p (fun _ h=>h) α w dst hd out [] v (fun _ _=>rfl) (Nat.le_refl _) rfl rfl rfl (fun _ _ _=>rfl)
  (fun _ _ hl=>by simp[look] at hl) (fun _ _ hl=>by simp[look] at hl) (fun _ _ _ _ hl=>by simp[look] at hl) (fun _ _ _ hl=>by simp[look] at hl)
  (fun _=>by rw[e];exact hout) hok
structure dJ where
 ins:List (Nat×AV)fp:List (Nat×aS)out:AV
 upd:List (Nat×Option aS)
def dJ.pre (r:dJ)(S:SS):Prop:=(∀t av,(t,av)∈r.ins→S.env t=some av)∧∀k e,(k,e)∈r.fp→S.own k=some e
def fC (ops:Array Oper)(i:Nat):Option Nat:=(ops[i]?).bind (·.dst)
def oo (nm k:Nat):Prop:=k/16=nm
def pU (P:Program)(G:List Gl)(ops:Array Oper)(n N i:Nat)(r:dJ):Prop:=∀(X0:Nat→Prop)(F:Fr)(w0:World)(p:Nat→Prop)(α:Nat→dh)(S:SS)(a:Act)(w:World)(Q:Exit→Act→World→Prop)(K:Act→World→Prop),dn G X0 F w0 n p α S a w→r.pre S→(∀k,oo (N+i) k→¬p k)→(∀α' a' w',dn G X0 F w0 n (fun k=>p k∨oo (N+i) k) α' (S.upd (fC ops i) r.out r.upd) a' w'→K a' w')→wpOp P ops Q i K a w
def lH (ops:Array Oper):SS→List (Nat×dJ)→SS→Prop|S,[],S'=>S'=S|S,(i,r)::l,S'=>r.pre S∧lH ops (S.upd (fC ops i) r.out r.upd) l S'
def PD (N:Nat)(done:Nat→Prop)(k:Nat):Prop:=k/16<N∨∃j,done j∧oo (N+j) k
theorem Cr {P:Program}{ops:Array Oper}{n N:Nat}{G:List Gl}{X0:Nat→Prop}{F:Fr}{w0:World}{Q:Exit→Act→World→Prop}{S':SS}:∀(l:List (Nat×dJ))(S:SS)(done:Nat→Prop)(α:Nat→dh)(a:Act)(w:World),(∀x,x∈l→pU P G ops n N x.1 x.2)→lH ops S l S'→l.Pairwise (fun x y=>x.1<y.1)→(∀x,x∈l→¬done x.1)→dn G X0 F w0 n (PD N done) α S a w→(∀α' a' w',dn G X0 F w0 n (PD N fun j=>done j∨∃x,x∈l∧x.1=j) α' S' a' w'→Q .normal a' w')→wpOps P ops Q (l.map (·.1)) a w:=by intro l;induction l with|nil=>intro S done α a w _ hc _ _ hs hq;simp only[lH] at hc;subst hc;exact hq α a w (hs.mono fun k hk=>hk.imp id fun⟨j,h1,h2⟩=>⟨j,.inl h1,h2⟩);|cons x l ih=>
 obtain⟨i,r⟩:=x;intro S done α a w hv hc hp hd hs hq;obtain⟨hpre,hc⟩:=hc;rw[Nw,wpOps_cons];refine hv (i,r) List.mem_cons_self X0 F w0 _ α S a w Q _ hs hpre ?_ ?_
 ·rintro k hk (hlt|⟨j,hj,hj'⟩);·simp only[oo] at hk;omega
  ·simp only[oo] at hk hj';have:j=i:=by omega
   subst this;exact hd (j,r) List.mem_cons_self hj
 ·intro α' a' w' hs';have hp':=List.pairwise_cons.1 hp;refine ih _ (fun j=>done j∨j=i) α' a' w' (fun x hx=>hv x (Nv _ hx)) hc hp'.2 ?_ (hs'.mono ?_) ?_
  ·rintro x hx (hdx|he);·exact hd x (Nv _ hx) hdx
   ·have:=hp'.1 x hx;simp only at this;omega
  ·rintro k ((hlt|⟨j,hj,hj'⟩)|hf);·exact .inl hlt
   ·exact .inr ⟨j,.inl hj,hj'⟩
   ·exact .inr ⟨i,.inr rfl,hf⟩
  ·intro α'' a'' w'' hs'';refine hq α'' a'' w'' (hs''.mono ?_);rintro k (hlt|⟨j,(hj|rfl)|⟨x,hx,hxj⟩,hj'⟩);·exact .inl hlt
   ·exact .inr ⟨j,.inl hj,hj'⟩
   ·exact .inr ⟨j,.inr ⟨(j,r),List.mem_cons_self,rfl⟩,hj'⟩
   ·exact .inr ⟨j,.inr ⟨x,Nv _ hx,hxj⟩,hj'⟩
structure v7 (d1:Option Nat)(r1:dJ)(d2:Option Nat)(r2:dJ):Prop where
 t12:∀d,d1=some d→(∀av,(d,av)∉r2.ins)∧d2≠some d
 t21:∀d,d2=some d→∀av,(d,av)∉r1.ins
 o12:∀k,(look r1.upd k).isSome=true→(∀e,(k,e)∉r2.fp)∧look r2.upd k=none
 o21:∀k,(look r2.upd k).isSome=true→∀e,(k,e)∉r1.fp
theorem v7.swap {d1 d2:Option Nat}{r1 r2:dJ}(h:v7 d1 r1 d2 r2){S:SS}(h1:r1.pre S)(h2:r2.pre (S.upd d1 r1.out r1.upd)):r2.pre S∧r1.pre (S.upd d2 r2.out r2.upd)∧(S.upd d1 r1.out r1.upd).upd d2 r2.out r2.upd=(S.upd d2 r2.out r2.upd).upd d1 r1.out r1.upd:=by
 refine⟨⟨fun t av ht=>?_,fun k e hk=>?_⟩,⟨fun t av ht=>?_,fun k e hk=>?_⟩,?_⟩
 ·have:=h2.1 t av ht;by_cases hd:d1=some t;·exact absurd ht ((h.t12 t hd).1 av)
  ·simpa[SS.upd,hd] using this
 ·have:=h2.2 k e hk;cases hl:look r1.upd k with|none=>simpa[SS.upd,hl] using this;|some oe=>exact absurd hk ((h.o12 k (by rw[hl];rfl)).1 e)
 ·by_cases hd:d2=some t;·exact absurd ht (h.t21 t hd av)
  ·simpa[SS.upd,hd] using h1.1 t av ht
 ·cases hl:look r2.upd k with|none=>simpa[SS.upd,hl] using h1.2 k e hk;|some oe=>exact absurd hk (h.o21 k (by rw[hl];rfl) e)
 ·simp only[SS.upd,SS.mk.injEq];constructor
  ·funext t;by_cases hd1:d1=some t;·have:=(h.t12 t hd1).2;simp[hd1,this]
   ·by_cases hd2:d2=some t<;>simp[hd1,hd2]
  ·funext k;cases hl1:look r1.upd k with|none=>cases hl2:look r2.upd k<;>simp;|some oe=>have:=(h.o12 k (by rw[hl1];rfl)).2;simp[this]
theorem K8 {ops:Array Oper}{i:Nat}{r:dJ}{l2:List (Nat×dJ)}{S':SS}:∀(l1:List (Nat×dJ))(S:SS),(∀x,x∈l1→v7 (fC ops x.1) x.2 (fC ops i) r)→lH ops S (l1++(i,r)::l2) S'→r.pre S∧lH ops (S.upd (fC ops i) r.out r.upd) (l1++l2) S':=by intro l1;induction l1 with|nil=>intro S _ hc;exact hc;|cons x l1 ih=>obtain⟨j,q⟩:=x;intro S hi hc;obtain⟨hq,hc⟩:=hc;obtain⟨hr,hc⟩:=ih _ (fun x hx=>hi x (Nv _ hx)) hc;obtain⟨h1,h2,h3⟩:=(hi (j,q) List.mem_cons_self).swap hq hr;exact⟨h1,h2,by rw[←h3];exact hc⟩
inductive lY (ops:Array Oper):Nat→Nat→Prop|edge {j:Nat}{o:Oper}{e:Edge}:ops[j]?=some o→e∈o.after→Region.binds .any e=true→lY ops e.on j|step {i j:Nat}{o:Oper}{e:Edge}:ops[j]?=some o→e∈o.after→Region.binds .any e=true→lY ops i e.on→lY ops i j
def Ej (ops:Array Oper)(listed:Array Bool):Prop:=∀j o,ops[j]?=some o→listed.getD j true=true→∀e∈o.after,Region.binds .any e=true→listed.getD e.on true=true
theorem lY.listed {ops:Array Oper}{ls:Array Bool}(hc:Ej ops ls){i j:Nat}(h:lY ops i j):(∀o,ops[j]?=some o→∀e∈o.after,Region.binds .any e=true→ls.getD e.on true=true)→ls.getD i true=true:=by induction h with|edge h1 h2 h3=>intro h;exact h _ h1 _ h2 h3;|step h1 h2 h3 _ ih=>intro h;exact ih fun o ho=>hc _ o ho (h _ h1 _ h2 h3)
def Ha (ops:Array Oper)(x y:Nat×dJ):Prop:=x.1<y.1∧(v7 (fC ops x.1) x.2 (fC ops y.1) y.2∨lY ops x.1 y.1)
theorem DN {P:Program}{ops:Array Oper}{n N:Nat}{G:List Gl}{X0:Nat→Prop}{F:Fr}{w0:World}{Q:Exit→Act→World→Prop}{S':SS}(hback:∀j o,ops[j]?=some o→∀e∈o.after,Region.binds .any e=true→e.on<j):∀(fuel:Nat)(l:List (Nat×dJ))(listed:Array Bool)(S:SS)(done:Nat→Prop)(α:Nat→dh)(a:Act)(w:World),l.length≤fuel→listed.size=ops.size→(∀j,j<ops.size→(listed.getD j true=false↔∃x,x∈l∧x.1=j))→(∀x,x∈l→x.1<ops.size)→Ej ops listed→(∀x,x∈l→pU P G ops n N x.1 x.2)→lH ops S l S'→l.Pairwise (Ha ops)→(∀x,x∈l→¬done x.1)→dn G X0 F w0 n (PD N done) α S a w→(∀α' a' w',dn G X0 F w0 n (PD N fun j=>done j∨∃x,x∈l∧x.1=j) α' S' a' w'→Q .normal a' w')→wpAny P .any ops Q fuel listed a w:=by
 have fin:∀(l:List (Nat×dJ))(S:SS)(done:Nat→Prop)(α:Nat→dh)(a:Act)(w:World),l=[]→lH ops S l S'→dn G X0 F w0 n (PD N done) α S a w→(∀α' a' w',dn G X0 F w0 n (PD N fun j=>done j∨∃x,x∈l∧x.1=j) α' S' a' w'→Q .normal a' w')→Q .normal a w:=by intro l S done α a w hl hc hs hq;subst hl;simp only[lH] at hc;subst hc;exact hq α a w (hs.mono fun k hk=>hk.imp id fun⟨j,h1,h2⟩=>⟨j,.inl h1,h2⟩)
 have first:∀(l:List (Nat×dJ))(listed:Array Bool),(∀j,j<ops.size→(listed.getD j true=false↔∃x,x∈l∧x.1=j))→(∀x,x∈l→x.1<ops.size)→listed.size=ops.size→l.Pairwise (Ha ops)→Region.ready .any ops listed=[]→l=[]:=by intro l listed hl hlt hsz hp hr;cases l with|nil=>rfl;|cons x l=>
  exfalso;have hx:=hlt x List.mem_cons_self;have:x.1∈Region.ready .any ops listed:=by
   rw[mem_ready];refine⟨(hl _ hx).2 ⟨x,List.mem_cons_self,rfl⟩,ops[x.1],Array.getElem?_eq_getElem hx,fun e he hb=>?_⟩;have hlt2:=hback x.1 _ (Array.getElem?_eq_getElem hx) e he hb;have hes:e.on<ops.size:=by omega
   cases hg:listed.getD e.on true with|false=>
    obtain⟨y,hy,hye⟩:=(hl _ hes).1 hg;rcases List.mem_cons.1 hy with rfl|hy;·omega
    ·have:=((List.pairwise_cons.1 hp).1 y hy).1;omega;|true=>
    have:e.on<listed.size:=by omega
    simpa[Array.getD,this] using hg
  rw[hr] at this;cases this
 intro fuel;induction fuel with
 |zero=>intro l listed S done α a w hf hsz hl hlt hcl hv hc hp hd hs hq;have h0:l=[]:=List.eq_nil_of_length_eq_zero (by omega);refine⟨?_,fin l S done α a w h0 hc hs hq⟩;subst h0;cases hr:Region.ready .any ops listed with|nil=>rfl;|cons j js=>
  exfalso;have:j∈Region.ready .any ops listed:=by rw[hr];exact List.mem_cons_self
  rw[mem_ready] at this;obtain⟨h1,o,ho,_⟩:=this;have hj:j<ops.size:=(Array.getElem?_eq_some_iff.1 ho).1;obtain⟨x,hx,_⟩:=(hl j hj).1 h1;cases hx|succ fuel ih=>
 intro l listed S done α a w hf hsz hl hlt hcl hv hc hp hd hs hq;refine⟨fun hr=>fin l S done α a w (first l listed hl hlt hsz hp hr) hc hs hq,fun i hi=>?_⟩;rw[mem_ready] at hi;obtain⟨hun,o,ho,hall⟩:=hi;have hio:i<ops.size:=(Array.getElem?_eq_some_iff.1 ho).1;obtain⟨⟨i',r⟩,hx,rfl⟩:=(hl i hio).1 hun;simp only at ho hio hun;obtain⟨l1,l2,rfl⟩:=List.append_of_mem hx;have hp':=List.pairwise_append.1 hp;have hpred:∀o',ops[i']?=some o'→∀e∈o'.after,Region.binds .any e=true→listed.getD e.on true=true:=by
  intro o' ho' e he hb;rw[ho] at ho';cases ho';have h1:=hall e he hb;have:=hback i' o ho e he hb;have:e.on<listed.size:=by omega
  simpa[Array.getD,this] using h1
 have hind:∀x,x∈l1→v7 (fC ops x.1) x.2 (fC ops i') r:=by
  intro x hx1;rcases (hp'.2.2 x hx1 (i',r) List.mem_cons_self).2 with h|h;·exact h
  ·have h1:=h.listed hcl hpred;have h2:=(hl x.1 (hlt x (List.mem_append_left _ hx1))).2 ⟨x,List.mem_append_left _ hx1,rfl⟩;rw[h1] at h2;cases h2
 obtain⟨hpre,hc'⟩:=K8 l1 S hind hc;have hne:∀x,x∈l1++l2→x.1≠i':=by
  intro x hx1 he;rcases Np.1 hx1 with h|h;·have:=(hp'.2.2 x h (i',r) List.mem_cons_self).1;simp only at this;omega
  ·have:=((List.pairwise_cons.1 hp'.2.1).1 x h).1;simp only at this;omega
 have hsub:∀x,x∈l1++l2→x∈l1++(i',r)::l2:=by
  intro x hx1;rcases Np.1 hx1 with h|h;·exact List.mem_append_left _ h
  ·exact List.mem_append_right _ (Nv _ h)
 refine hv (i',r) hx X0 F w0 _ α S a w Q _ hs hpre ?_ ?_
 ·rintro k hk (hlt1|⟨j,hj,hj'⟩);·simp only[oo] at hk;omega
  ·simp only[oo] at hk hj';have:j=i':=by omega
   subst this;exact hd (j,r) hx hj
 ·intro α' a' w' hs';refine ih (l1++l2) (listed.setIfInBounds i' true) _ (fun j=>done j∨j=i') α' a' w' ?_ (by simpa using hsz) ?_ (fun x h=>hlt x (hsub x h)) ?_ (fun x h=>hv x (hsub x h)) hc' ?_ ?_ (hs'.mono ?_) ?_;·simp only[Na,Nb] at hf⊢;omega
  ·intro j hj;by_cases hji:j=i'
   ·subst hji;have:j<listed.size:=by omega
    constructor;·intro h;simp[Array.getD,this] at h
    ·rintro⟨x,h1,h2⟩;exact absurd h2 (hne x h1)
   ·rw[getD_set_ne true (fun e=>hji e.symm),hl j hj];constructor
    ·rintro⟨x,h1,rfl⟩;rcases Np.1 h1 with h|h;·exact⟨x,List.mem_append_left _ h,rfl⟩
     ·rcases List.mem_cons.1 h with rfl|h;·exact absurd rfl hji
      ·exact⟨x,List.mem_append_right _ h,rfl⟩
    ·rintro⟨x,h1,h2⟩;exact⟨x,hsub x h1,h2⟩
  ·intro j o' ho' hj e he hb;have hin:∀q,listed.getD q true=true→(listed.setIfInBounds i' true).getD q true=true:=by
    intro q hq';by_cases hqi:q=i'
    ·subst hqi;have:q<listed.size:=by omega
     simp[Array.getD,this]
    ·rw[getD_set_ne true (fun e=>hqi e.symm)];exact hq'
   by_cases hji:j=i';·subst hji;exact hin _ (hpred o' ho' e he hb)
   ·rw[getD_set_ne true (fun e=>hji e.symm)] at hj;exact hin _ (hcl j o' ho' hj e he hb)
  ·refine List.pairwise_append.2 ⟨hp'.1,(List.pairwise_cons.1 hp'.2.1).2,fun x h1 y h2=>hp'.2.2 x h1 y (Nv _ h2)⟩
  ·rintro x h1 (h2|h2);·exact hd x (hsub x h1) h2
   ·exact hne x h1 h2
  ·rintro k ((h1|⟨j,hj,hj'⟩)|hf');·exact .inl h1
   ·exact .inr ⟨j,.inl hj,hj'⟩
   ·exact .inr ⟨i',.inr rfl,hf'⟩
  ·intro α'' a'' w'' hs'';refine hq α'' a'' w'' (hs''.mono ?_);rintro k (h1|⟨j,(hj|rfl)|⟨x,h2,h3⟩,hj'⟩);·exact .inl h1
   ·exact .inr ⟨j,.inl hj,hj'⟩
   ·exact .inr ⟨j,.inr ⟨(j,r),hx,rfl⟩,hj'⟩
   ·exact .inr ⟨j,.inr ⟨x,hsub x h2,h3⟩,hj'⟩
end Go.Eng
namespace Go.Eng
inductive Kd where|int (k:IntKind)|bool|str|slice (e:Nat)|ptr (e:Nat)|struct (fs:List (Nat×Nat))|array (n e:Nat)|uptr|map (k e:Nat)|iface|func|other
structure iQ where
 size:Nat
 agg:Bool
 zero:List AV
 bytes:Nat
 kd:Kd
def xN:IntKind→IntKind→Bool|.i8,.i8|.i16,.i16|.i32,.i32|.i64,.i64|.u8,.u8|.u16,.u16|.u32,.u32|.u64,.u64=>true|_,_=>false
theorem p9 {j k:IntKind}(h:xN j k=true):j=k:=by cases j<;>cases k<;>first|rfl|(simp[xN] at h)
def zm:AV→Value→Bool|.d (.b false),.bool false=>true|.d (.i k n),.int k' m=>xN k k'&&decide (n=m)|.d (.s []),.string s=>Nat.beq s.data.size 0|.nl _,.slice none 0 0=>true|.d (.x (.pointer none)),.pointer none=>true|.d (.x .nilFunc),.nilFunc=>true|.d (.x .nilIface),.nilIface=>true|.d (.x (.map none)),.map none=>true|_,_=>false
theorem JV {w:World}{α:Nat→dh}{X:Nat→Prop}{a:AV}{v:Value}(h:zm a v=true):co w α X a v:=by
 unfold zm at h;split at h;·exact .d _ _ (.b _)
 ·simp only[Bool.and_eq_true,decide_eq_true_eq] at h;rw[p9 h.1,h.2];exact .d _ _ (.i _ _)
 ·rename_i s;have h1:=Nd h;have:s=⟨[].toArray⟩:=by obtain⟨a⟩:=s;simp only at h1;rw[Array.eq_empty_of_size_eq_zero h1]
  rw[this];exact .d _ _ (.s _)
 ·exact .nl _
 ·exact .d _ _ (.x _)
 ·exact .d _ _ (.x _)
 ·exact .d _ _ (.x _)
 ·exact .d _ _ (.x _)
 ·cases h
theorem zm_ok {p:Nat→Prop}{a:AV}{v:Value}(h:zm a v=true):a.ok p:=by unfold zm at h;split at h<;>first|exact .d _|exact .nl _|cases h
def zl : List Value → List AV → Bool
  | [], [] => true
  | v :: vs, a :: as => zm a v && zl vs as
  | _, _ => false
def lE (P:Program):List (Nat×Nat)→List Field→Bool|[],[]=>true|o::os,f::fs=>Nat.beq o.1 f.offset&&Nat.beq o.2 f.type&&(match P.info? f.type with|some i=>!Nat.beq i.size 0|none=>false)&&lE P os fs|_,_=>false
theorem tE {P:Program}{os:List (Nat×Nat)}{fs:List Field}(h:lE P os fs=true)(j:Nat){o:Nat×Nat}(hj:os[j]?=some o):∃f i,fs[j]?=some f∧f.offset=o.1∧f.type=o.2∧P.info? f.type=some i∧i.size≠0:=by induction os generalizing fs j with|nil=>simp at hj;|cons x os ih=>cases fs with|nil=>simp[lE] at h;|cons f fs=>simp only[lE,Bool.and_eq_true] at h;obtain⟨⟨⟨h1,h2⟩,h3⟩,h4⟩:=h;cases j with
 |zero=>
 simp at hj;subst hj;split at h3;·rename_i i hi;refine⟨f,i,rfl,(Nd h1).symm,(Nd h2).symm,hi,fun h0=>?_⟩;rw[h0] at h3;simp at h3
 ·cases h3;|succ j=>simpa using ih h4 j (by simpa using hj)
def j6 (P:Program):Kd→TypeDesc→Bool|.int k,.int k'=>xN k k'|.bool,.bool=>true|.str,.string=>true|.slice e,.slice e'=>Nat.beq e e'|.ptr e,.pointer e'=>Nat.beq e e'|.struct os,.struct fs=>lE P os fs.toList|.array n e,.array n' e'=>Nat.beq n n'&&Nat.beq e e'|.uptr,.unsafePointer=>true|.map k e,.map k' e'=>Nat.beq k k'&&Nat.beq e e'|.iface,.interface _=>true|.func,.func _ _ _=>true|.other,_=>true|_,_=>false
def rT:TypeDesc→Bool|.struct _|.array _ _=>true|_=>false
def boolB:Bool→Bool→Bool|true,true|false,false=>true|_,_=>false
def A6 (P:Program)(t:Nat)(ti:iQ):Bool:=match P.info? t,P.underlying t with|some i,some u=>Nat.beq i.size ti.size&&Nat.beq i.bytes ti.bytes&&boolB (rT u) ti.agg&&j6 P ti.kd u&&(match i.zero with|some z=>zl z.cells.toList ti.zero|none=>false)|_,_=>false
structure eD (P:Program)(t:Nat)(ti:iQ):Prop where
 info:∃i,P.info? t=some i∧i.size=ti.size∧i.bytes=ti.bytes∧∃z,i.zero=some z∧zl z.cells.toList ti.zero=true
 und:∃u,P.underlying t=some u∧rT u=ti.agg∧j6 P ti.kd u=true
theorem FU {P:Program}{t:Nat}{ti:iQ}(h:A6 P t ti=true):eD P t ti:=by
 unfold A6 at h;split at h
 ·rename_i i u hi hu;simp only[Bool.and_eq_true] at h;obtain⟨⟨⟨⟨h1,h2⟩,h3⟩,h4⟩,h5⟩:=h;refine⟨⟨i,hi,Nd h1,Nd h2,?_⟩,u,hu,?_,h4⟩
  ·split at h5;·rename_i z hz;exact⟨z,hz,h5⟩
   ·cases h5
  ·cases ha:rT u<;>cases hb:ti.agg<;>rw[ha,hb] at h3<;>first|rfl|cases h3
 ·cases h
structure cq where
 P:Program
 tab:List (Nat×iQ)G:List Gl
 tabOk:(tab.all fun x=>A6 P x.1 x.2)=true
theorem cq.ty {C:cq}{t:Nat}{ti:iQ}(h:look C.tab t=some ti):eD C.P t ti:=FU (List.all_eq_true.1 C.tabOk (t,ti) (iP h))
structure AS where env:List (Nat×AV)own:List (Nat×Option aS)nx:Nat
def AS.ss (st:AS):SS:=⟨look st.env,fun k=>match look st.own k with|some oe=>oe|none=>none⟩
def aW {β:Type}:List (Nat×β)→Nat→(β→Prop)→Prop|[],_,_=>False|(y,v)::r,x,K=>match Nat.beq x y with|true=>K v|false=>aW r x K
theorem aJ {β:Type}{l:List (Nat×β)}{x:Nat}{K:β→Prop}(h:aW l x K):∃v,look l x=some v∧K v:=by induction l with|nil=>cases h;|cons y l ih=>
 obtain⟨y,v⟩:=y;simp only[aW] at h;simp only[look];split at h;·rename_i hb;exact⟨v,by simp,h⟩
 ·rename_i hb;simpa[hb] using ih h
def iH (st:AS)(k:Nat)(K:aS→Prop):Prop:=aW st.own k fun oe=>match oe with|some e=>K e|none=>False
theorem cQ {st:AS}{k:Nat}{K:aS→Prop}(h:iH st k K):∃e,st.ss.own k=some e∧K e:=by obtain⟨oe,h1,h2⟩:=aJ h;cases oe with|none=>cases h2;|some e=>exact⟨e,by simp[AS.ss,h1],h2⟩
def vv (sz:Nat)(v:Value)(K:AV→Prop):Prop:=match v with|.bool t=>K (.d (.b t))|.int k n=>K (.d (.i k n))|.string s=>K (.d (.s s.data.toList))|.slice none 0 0=>K (.nl sz)|v=>K (.d (.x v))
def fF (st:AS)(x:Operand)(K:AV→Prop):Prop:=match x with|.tmp t=>aW st.env t K|.const v=>vv 1 v K|.global g=>K (.gp g)|.func f=>K (.fn (.func f) [] [])
inductive Ev (env:Nat→Option AV):Operand→AV→Prop where|tmp (t:Nat)(av:AV):env t=some av→Ev env (.tmp t) av|bool (t:Bool):Ev env (.const (.bool t)) (.d (.b t))|int (k:IntKind)(n:Int):Ev env (.const (.int k n)) (.d (.i k n))|string (s:ByteArray):Ev env (.const (.string s)) (.d (.s s.data.toList))|nl (sz:Nat):Ev env (.const (.slice none 0 0)) (.nl sz)|other (v:Value):Ev env (.const v) (.d (.x v))|global (g:Nat):Ev env (.global g) (.gp g)|func (f:FuncId):Ev env (.func f) (.fn (.func f) [] [])
theorem yZ {env:Nat→Option AV}{sz:Nat}{v:Value}{K:AV→Prop}(h:vv sz v K):∃av,Ev env (.const v) av∧K av:=by
 unfold vv at h;split at h;·exact⟨_,.bool _,h⟩
 ·exact⟨_,.int _ _,h⟩
 ·exact⟨_,.string _,h⟩
 ·exact⟨_,.nl sz,h⟩
 ·exact⟨_,.other _,h⟩
theorem bx {st:AS}{x:Operand}{K:AV→Prop}(h:fF st x K):∃av,Ev st.ss.env x av∧K av:=by
 unfold fF at h;split at h;·obtain⟨av,h1,h2⟩:=aJ h;exact⟨av,.tmp _ _ h1,h2⟩
 ·exact yZ h
 ·exact⟨_,.global _,h⟩
 ·exact⟨_,.func _,h⟩
def NS (st : AS) : List Operand → (List AV → Prop) → Prop
  | [], K => K []
  | x :: xs, K => fF st x fun a => NS st xs fun as => K (a :: as)
inductive Dr (env : Nat → Option AV) : List Operand → List AV → Prop where
  | nil : Dr env [] []
  | cons (x : Operand) (a : AV) (xs : List Operand) (as : List AV) : Ev env x a → Dr env xs as → Dr env (x :: xs) (a :: as)
theorem j9 {st : AS} {xs : List Operand} {K : List AV → Prop} (h : NS st xs K) : ∃ as, Dr st.ss.env xs as ∧ K as := by
  induction xs generalizing K with
  | nil => exact ⟨[], .nil, h⟩
  | cons x xs ih =>
    obtain ⟨a, h1, h2⟩ := bx h
    obtain ⟨as, h3, h4⟩ := ih h2
    exact ⟨a :: as, .cons x a xs as h1 h3, h4⟩
theorem Ev.congr {env env':Nat→Option AV}{x:Operand}{av:AV}(h:Ev env x av)(he:∀t,x=.tmp t→∀av,env t=some av→env' t=some av):Ev env' x av:=by cases h with|tmp t av h=>exact .tmp t av (he t rfl av h);|bool t=>exact .bool t;|int k n=>exact .int k n;|string s=>exact .string s;|nl sz=>exact .nl sz;|other v=>exact .other v;|global g=>exact .global g;|func f=>exact .func f
section
variable {G:List Gl}{X0:Nat→Prop}{F:Fr}{w0:World}{n:Nat}{p:Nat→Prop}{α:Nat→dh}{S:SS}{a:Act}{w:World}
theorem Ev.read (hs:dn G X0 F w0 n p α S a w){x:Operand}{av:AV}(h:Ev S.env x av):co w α (XX α S.own X0) av (a.eval x):=by cases h with|tmp t av h=>exact hs.env t av h;|bool t=>exact .d _ _ (.b t);|int k n=>exact .d _ _ (.i k n);|string s=>obtain⟨⟨l⟩⟩:=s;exact .d _ _ (.s _);|nl sz=>exact .nl sz;|other v=>exact .d _ _ (.x v);|global g=>exact .gp g;|func f=>exact .fn _ _ _ _ _ rfl rfl (fun j c v h=>by simp at h) fun j c v h=>by simp at h
theorem Ev.ok (hs:dn G X0 F w0 n p α S a w){x:Operand}{av:AV}(h:Ev S.env x av):av.ok p:=by cases h with|tmp t av h=>exact hs.ok t av h;|nl sz=>exact .nl sz;|global g=>exact .gp g;|func f=>exact .fn _ _ _ (fun c h=>by cases h) fun c h=>by cases h;|_=>exact .d _
theorem Dr.length {env : Nat → Option AV} {xs : List Operand} {as : List AV} (h : Dr env xs as) : as.length = xs.length := by
  induction h with
  | nil => rfl
  | cons x a xs as _ _ ih => simp [ih]
theorem Dr.get {env : Nat → Option AV} {xs : List Operand} {as : List AV} (h : Dr env xs as) (j : Nat) (av : AV) (hj : as[j]? = some av) : ∃ x, xs[j]? = some x ∧ Ev env x av := by
  induction h generalizing j with
  | nil => simp at hj
  | cons x a xs as h1 _ ih =>
    cases j with
    | zero => simp at hj; subst hj; exact ⟨x, rfl, h1⟩
    | succ j => simpa using ih j (by simpa using hj)
theorem Dr.congr {env env' : Nat → Option AV} {xs : List Operand} {as : List AV} (h : Dr env xs as) (he : ∀ t, Operand.tmp t ∈ xs → ∀ av, env t = some av → env' t = some av) : Dr env' xs as := by
  induction h with
  | nil => exact .nil
  | cons x a xs as h1 _ ih =>
    refine .cons _ _ _ _ (h1.congr fun t e => he t (by rw [e]; exact List.mem_cons_self)) (ih fun t ht => he t (Nv _ ht))
end
def cr (C:cq)(n:Nat)(o:Oper)(nm:Nat)(st:AS)(rd:List Nat)(out:AV)(upd:List (Nat×Option aS)):Prop:=(∀k oe,look upd k=some oe→k∈rd∨oo nm k)∧∀(X0:Nat→Prop)(F:Fr)(w0:World)(p:Nat→Prop)(α:Nat→dh)(S:SS)(a:Act)(w:World)(Q:Exit→Act→World→Prop)(next:Act→World→Prop),dn C.G X0 F w0 n p α S a w→(∀t,Operand.tmp t∈o.op.operands→∀av,st.ss.env t=some av→S.env t=some av)→(∀k,k∈rd→∀e,st.ss.own k=some e→S.own k=some e)→(∀k,oo nm k→¬p k)→(∀d,o.dst=some d→d<n)→(∀α' v w',dn C.G X0 F w0 n (fun k=>p k∨oo nm k) α' (S.upd o.dst out upd) (a.put o.dst v) w'→next (a.put o.dst v) w')→o.wp C.P a w next Q
theorem em {P:Program}{o:Oper}{a:Act}{w w':World}{v:Value}{next:Act→World→Prop}{Q:Exit→Act→World→Prop}(h:(execOp a.eval o).run P w=.ok (.value v) w')(hn:next (a.put o.dst v) w'):o.wp P a w next Q:=by unfold Oper.wp;rw[h];exact hn
theorem Gk {P:Program}{o:Oper}{a:Act}{w w':World}{next:Act→World→Prop}{Q:Exit→Act→World→Prop}(h:(execOp a.eval o).run P w=.ok .skip w')(hn:next (a.put o.dst undef) w'):o.wp P a w next Q:=by unfold Oper.wp;rw[h];exact hn
theorem cr.pure {C:cq}{n:Nat}{o:Oper}{nm:Nat}{st:AS}{rd:List Nat}{out:AV}(h:∀(X0:Nat→Prop)(F:Fr)(w0:World)(p:Nat→Prop)(α:Nat→dh)(S:SS)(a:Act)(w:World),dn C.G X0 F w0 n p α S a w→(∀t,Operand.tmp t∈o.op.operands→∀av,st.ss.env t=some av→S.env t=some av)→(∀k,k∈rd→∀e,st.ss.own k=some e→S.own k=some e)→∃v,(execOp a.eval o).run C.P w=.ok (.value v) w∧co w α (XX α S.own X0) out v∧out.ok p):cr C n o nm st rd out []:=by refine⟨fun k oe hl=>by simp[look] at hl,fun X0 F w0 p α S a w Q next hs he ho _ hd hn=>?_⟩;obtain⟨v,hr,h1,h2⟩:=h X0 F w0 p α S a w hs he ho;exact em hr (hn α v w ((hs.pure o.dst hd out v h1 h2).mono fun k hk=>.inl hk))
end Go.Eng
