import Derived.Test.YtbfkfmpfdafogaaGreatDoorMd
import Derived.Test.YtbfkfmpfdafogaaGreatDoorClF
import Derived.WalkKit
import Derived.ProofKit
import Derived.OpenShut
import Derived.ShutString
import Derived.ChangeOld
import Derived.Below
import Derived.Carry
import Derived.Deep.DeepHandedRow
import Derived.Lib.LaidTab
import Derived.Stop.LaidErr
/-
  From a row's conditions to the reckoning's: the listed tables, the arguments.
-/
namespace Go.Proofs.YtbfkfmpfdafogaaGreatDoor
open Go.Eng Go.ChangeShapes Go.WideShapes Go.ChangeAt Go.RowKit

theorem own : ownKnob Tryz.prog.godebug = none := by kernel_rfl

theorem glob_of_tab {P : Program} {W : World} {X : Nat → Prop} {name : String} {k : IntKind} {zs : List Int} {g : Nat} {x : Gl} (h : Lib.TabIs P W name k zs) (hg : P.globalNamed name = some g)
    (hx : x = ⟨g, 1, zs.map (D.i k)⟩) : x.g < W.heap.size ∧ GlobAt W X x := by
  subst hx
  unfold Lib.TabIs World.var? at h
  simp only [hg, Option.bind_some] at h
  split at h
  · rename_i cs t fz hh
    simp only [Option.some.injEq] at h
    subst h
    refine ⟨?_, _, t, fz, hh, by simp, fun j d hd => ?_, fun j m d c hd hc => ?_⟩
    · rcases Nat.lt_or_ge g W.heap.size with h | h
      · exact h
      · rw [Array.getElem?_eq_none h] at hh; cases hh
    · simp only [List.getElem?_map, Option.map_eq_some_iff] at hd
      obtain ⟨z, _, rfl⟩ := hd
      exact ⟨rfl, fun c hc => by simp [D.cells] at hc; subst hc; rfl⟩
    · simp only [List.getElem?_map, Option.map_eq_some_iff] at hd
      obtain ⟨z, hz, rfl⟩ := hd
      have hm : m = 0 := by
        cases m with
        | zero => rfl
        | succ m => simp [D.cells] at hc
      subst hm
      have : c = .i k z := by simpa [D.cells] using hc.symm
      subst this
      exact ⟨.int k z, by simp [hz], .i k z⟩
  · cases h

def nums (x : Gl) : List Int := x.xs.map fun d => match d with | .i _ n => n | _ => 0

theorem wf64 {n : Int} (h : (Lit.int .i64 n).wf = true) : I64 n := by
  have h : (decide (IntKind.i64.min ≤ n) && decide (n ≤ IntKind.i64.max)) = true := h
  have e1 : IntKind.i64.min = -9223372036854775808 := by decide
  have e2 : IntKind.i64.max = 9223372036854775807 := by decide
  simp only [e1, e2, Bool.and_eq_true, decide_eq_true_eq] at h
  exact h

/-- A world for the witness: the tables hold what their initialisers lay. -/
def fillBlock (x : Gl) (k : IntKind) : Obj → Obj
  | .cells _ t frozen => .cells ((nums x).map (Value.int k)).toArray t frozen
  | o => o
end Go.Proofs.YtbfkfmpfdafogaaGreatDoor

/-
  A slice of integers that came in reads as a list.
-/
namespace Go.Proofs.YtbfkfmpfdafogaaGreatDoor
open Go.Eng Go.ChangeShapes Go.WideShapes Go.ChangeAt Go.RowKit

theorem has_block {P : Program} {W : World} {r : Reach} {base : Nat} {a : Addr} {e : TypeId} {n : Nat} (h : W.has P r base a e n) : a.spot = none ∧ ∃ arr T fz, W.heap[a.block]? = some (.cells arr T fz) := by
  obtain ⟨_, h1, row, cells, h2, _⟩ := h
  refine ⟨h1, ?_⟩
  unfold World.shape? at h2
  split at h2
  · rename_i arr T fz hh; exact ⟨arr, T, fz, hh⟩
  · cases h2

theorem slice_read {H : Type} {enc : TypeId × Value → H} {P : Program} {W : World} {base : Nat} {t e : TypeId} {k : IntKind} {v : Value} {d : DataW H} {ps : List MemPlace}
    (hu : P.underlying t = some (.slice e)) (he : P.underlying e = some (.int k)) (hce : P.cellsOf e = 1) (hval : Value.okWide P W .any base t v)
    (hd : DataW.Trod enc P W 0 (fun _ => true) true t v d ps) : ∃ zs : List Int, zs.length ≤ 9223372036854775807 ∧ (∀ n, n ∈ zs → (Lit.int k n).wf = true) ∧ Rd W (fun _ => False) (.sl 1 (zs.map (D.i k))) v := by
  obtain ⟨a0, len0, cap0, rfl⟩ := okWide_slice hu hval
  obtain ⟨fuel, hf⟩ := hd
  rcases open_ints hu he hce hf with ⟨hcs, _⟩ | ⟨x, l, c, zs, hcs, _, hl, hm, hz, _, hcell, hwz⟩
  · simp [Value.cells] at hcs
    obtain ⟨rfl, rfl, rfl⟩ := hcs
    exact ⟨[], by simp, (fun n hn => by cases hn), .slnil 1⟩
  · simp [Value.cells] at hcs
    obtain ⟨rfl, rfl, rfl⟩ := hcs
    have hz : zs.length = cap0 := by simpa using hz
    have hok : W.has P .any base x e cap0 := by
      unfold Value.okWide at hval
      rw [hu] at hval
      simp only [Cell.okWide, hu, Cell.ok] at hval
      exact hval.2.2
    obtain ⟨hs, arr, T, fz, hh⟩ := has_block hok
    obtain ⟨blk, off, spot⟩ := x
    simp only at hs hh
    subst hs
    have hmax : cap0 ≤ 9223372036854775807 := hm
    have hval' : ∀ (j m : Nat) (y c : D), ((zs.take len0).map (D.i k))[j]? = some y → y.cells[m]? = some c → m = 0 ∧ j < len0 ∧ j < zs.length ∧ y = .i k (zs.getD j 0) ∧ c = .i k (zs.getD j 0) := by
      intro j m y c hy hc
      simp only [List.getElem?_map, Option.map_eq_some_iff] at hy
      obtain ⟨z, hz1, rfl⟩ := hy
      rw [List.getElem?_take] at hz1
      split at hz1
      · rename_i hj
        have hlt := (List.getElem?_eq_some_iff.1 hz1).1
        have hg : zs.getD j 0 = z := by simp [List.getD_eq_getElem?_getD, hz1]
        have hm0 : m = 0 := by
          cases m with
          | zero => rfl
          | succ m => simp [D.cells] at hc
        subst hm0
        have : c = .i k z := by simpa [D.cells] using hc.symm
        exact ⟨rfl, hj, hlt, by rw [hg], by rw [hg, this]⟩
      · cases hz1
    refine ⟨zs.take len0, by simp; omega, fun n hn => hwz n (List.mem_of_mem_take hn), ?_⟩
    refine .sl 1 _ blk off len0 cap0 arr T fz (fun j _ => .int k (zs.getD j 0)) hh (fun h => h) (by simp; omega) hl (fun j y hy => ?_) (fun j m y c hy hc => ?_) fun j m y c hy hc => ?_
    · simp only [List.getElem?_map, Option.map_eq_some_iff] at hy
      obtain ⟨z, _, rfl⟩ := hy
      exact ⟨rfl, fun c hc => by simp [D.cells] at hc; subst hc; rfl⟩
    · obtain ⟨rfl, hj, hlt, _, _⟩ := hval' j m y c hy hc
      have := hcell j hlt
      rw [Addr.add_mk, cell_of hh] at this
      simpa using this
    · obtain ⟨rfl, hj, hlt, _, rfl⟩ := hval' j m y c hy hc
      exact .i k _

theorem open_intsl {H : Type} {enc : TypeId × Value → H} {P : Program} {W : World} {base : Nat} {t e : TypeId} {v : Value} {d : DataW H} {ps : List MemPlace}
    (hu : P.underlying t = some (.slice e)) (he : P.underlying e = some (.int .i64)) (hce : P.cellsOf e = 1) (hval : Value.okWide P W .any base t v)
    (hd : DataW.Trod enc P W 0 (fun _ => true) true t v d ps) : ∃ zs : List Int, zs.length ≤ 9223372036854775807 ∧ Rd W (fun _ => False) (ints zs) v := by
  obtain ⟨zs, h1, _, h3⟩ := slice_read hu he hce hval hd
  exact ⟨zs, h1, h3⟩

theorem open_bytesl {H : Type} {enc : TypeId × Value → H} {P : Program} {W : World} {base : Nat} {t e : TypeId} {v : Value} {d : DataW H} {ps : List MemPlace}
    (hu : P.underlying t = some (.slice e)) (he : P.underlying e = some (.int .u8)) (hce : P.cellsOf e = 1) (hval : Value.okWide P W .any base t v)
    (hd : DataW.Trod enc P W 0 (fun _ => true) true t v d ps) : ∃ bs : List UInt8, bs.length ≤ 9223372036854775807 ∧ Rd W (fun _ => False) (.sl 1 (encB bs)) v := by
  obtain ⟨zs, h1, h2, h3⟩ := slice_read hu he hce hval hd
  refine ⟨zs.map fun z => UInt8.ofNat z.toNat, by simpa using h1, ?_⟩
  have : encB (zs.map fun z => UInt8.ofNat z.toNat) = zs.map (D.i .u8) := by
    simp only [encB, List.map_map]
    apply List.map_congr_left
    intro z hz
    have hw : (decide (IntKind.u8.min ≤ z) && decide (z ≤ IntKind.u8.max)) = true := h2 z hz
    have e1 : IntKind.u8.min = 0 := by decide
    have e2 : IntKind.u8.max = 255 := by decide
    simp only [e1, e2, Bool.and_eq_true, decide_eq_true_eq] at hw
    simp only [Function.comp]
    congr 1
    rw [UInt8.toNat_ofNat']
    omega
  rw [this]; exact h3

theorem str_read {W : World} {X : Nat → Prop} (s : ByteArray) : Rd W X (.s s.data.toList) (.string s) := by
  obtain ⟨⟨l⟩⟩ := s
  exact .s l
end Go.Proofs.YtbfkfmpfdafogaaGreatDoor

/-
  Arguments of any type read as data, with the bound on their size.
-/
namespace Go.Proofs.YtbfkfmpfdafogaaGreatDoor
open Go.Eng Go.ChangeShapes Go.WideShapes Go.ChangeAt Go.RowKit

structure Ty (α : Type) where
  n : Nat
  el : α → D
  size : α → Nat
  ok : α → Prop

def tInt (k : IntKind) : Ty Int := ⟨1, .i k, fun _ => 1, fun n => (Lit.int k n).wf = true⟩
def tU8 : Ty UInt8 := ⟨1, fun c => .i .u8 (c.toNat : Int), fun _ => 1, fun _ => True⟩
def tBool : Ty Bool := ⟨1, .b, fun _ => 1, fun _ => True⟩
def tStr : Ty (List UInt8) := ⟨1, .s, fun l => l.length + 1, fun l => l.length ≤ maxLen⟩
def tSl {α : Type} (T : Ty α) : Ty (List α) := ⟨1, fun l => .sl T.n (l.map T.el), fun l => (l.map T.size).sum + 1, fun l => l.length ≤ maxLen ∧ ∀ a, a ∈ l → T.ok a⟩
def tLast {α : Type} (T : Ty α) : Ty α := ⟨T.n, fun a => .agg (T.el a).cells, fun a => T.size a + 1, T.ok⟩
def tPair {α β : Type} (T : Ty α) (U : Ty β) : Ty (α × β) := ⟨T.n + U.n, fun p => .agg ((T.el p.1).cells ++ (U.el p.2).cells), fun p => T.size p.1 + U.size p.2, fun p => T.ok p.1 ∧ U.ok p.2⟩
def tMap {α β : Type} (T : Ty α) (el : β → D) (size : β → Nat) (ok : β → Prop) : Ty β := ⟨T.n, el, size, ok⟩

/-- The cells cs hold a. -/
structure Holds (W : World) {α : Type} (T : Ty α) (a : α) (cs : List Value) : Prop where
  ok : T.ok a
  len : cs.length = T.n
  wide : (T.el a).wd T.n
  rd : ∀ (j : Nat) (c : D) (v : Value), (T.el a).cells[j]? = some c → cs[j]? = some v → Rd W (fun _ => False) c v

structure Reads (P : Program) (t : TypeId) {α : Type} (T : Ty α) : Prop where
  cells : P.cellsOf t = T.n
  read : ∀ {H : Type} (enc : TypeId × Value → H) (W : World) (fuel : Nat) (cs : List Value) (d : DataW H) (ps : List MemPlace),
    DataW.trod enc P W 0 (fun _ => true) true fuel t cs = some (d, ps) → ∃ a, Holds W T a cs ∧ T.size a ≤ Rows.uptoBulk d

/-- A struct's fields from the k-th cell on. -/
structure ReadsF (P : Program) (fs : List Field) (k : Nat) {α : Type} (T : Ty α) : Prop where
  read : ∀ {H : Type} (enc : TypeId × Value → H) (W : World) (fuel : Nat) (cs : List Value) (xs : List (DataW H × List MemPlace)),
    (fs.mapM fun f => DataW.trod enc P W 0 (fun _ => true) true fuel f.type ((cs.drop f.offset).take (P.cellsOf f.type))) = some xs → k + T.n = cs.length →
      ∃ a, Holds W T a (cs.drop k) ∧ T.size a ≤ Rows.uptoBulkAll (xs.map (·.1)) + 1

theorem holds_one {W : World} {α : Type} {T : Ty α} {a : α} {v : Value} (hn : T.n = 1) (ho : T.ok a) (hc : (T.el a).cells = [T.el a]) (h1 : (T.el a).one = true) (h : Rd W (fun _ => False) (T.el a) v) : Holds W T a [v] :=
  ⟨ho, by simp [hn], ⟨by rw [hc, hn]; rfl, fun c hcm => by rw [hc] at hcm; simp at hcm; rw [hcm]; exact h1⟩, fun j c v' h2 h3 => by
    rw [hc] at h2
    match j with
    | 0 => simp at h2 h3; subst h2; subst h3; exact h
    | j + 1 => simp at h2⟩

theorem reads_int {P : Program} {t : TypeId} {k : IntKind} (hu : P.underlying t = some (.int k)) (hc : P.cellsOf t = 1) : Reads P t (tInt k) := by
  refine ⟨hc, fun enc W fuel cs d ps h => ?_⟩
  cases fuel with
  | zero => simp [DataW.trod] at h
  | succ fuel =>
    unfold DataW.trod at h
    rw [hu] at h
    split at h <;> simp_all
    obtain ⟨⟨rfl, hw⟩, rfl, _⟩ := h
    exact ⟨_, holds_one rfl hw rfl rfl (.i _ _), by simp [tInt, Rows.uptoBulk]⟩

theorem reads_u8 {P : Program} {t : TypeId} (hu : P.underlying t = some (.int .u8)) (hc : P.cellsOf t = 1) : Reads P t tU8 := by
  refine ⟨hc, fun enc W fuel cs d ps h => ?_⟩
  cases fuel with
  | zero => simp [DataW.trod] at h
  | succ fuel =>
    unfold DataW.trod at h
    rw [hu] at h
    split at h <;> simp_all
    rename_i k' n hk
    subst hk
    obtain ⟨⟨_, hw⟩, rfl, _⟩ := h
    have hw : (decide (IntKind.u8.min ≤ n) && decide (n ≤ IntKind.u8.max)) = true := hw
    have e1 : IntKind.u8.min = 0 := by decide
    have e2 : IntKind.u8.max = 255 := by decide
    simp only [e1, e2, Bool.and_eq_true, decide_eq_true_eq] at hw
    refine ⟨UInt8.ofNat n.toNat, holds_one rfl trivial rfl rfl ?_, by simp [tU8, Rows.uptoBulk]⟩
    have : ((UInt8.ofNat n.toNat).toNat : Int) = n := by rw [UInt8.toNat_ofNat']; omega
    show Rd W _ (.i .u8 ((UInt8.ofNat n.toNat).toNat : Int)) _
    rw [this]
    exact .i _ _

theorem reads_bool {P : Program} {t : TypeId} (hu : P.underlying t = some .bool) (hc : P.cellsOf t = 1) : Reads P t tBool := by
  refine ⟨hc, fun enc W fuel cs d ps h => ?_⟩
  cases fuel with
  | zero => simp [DataW.trod] at h
  | succ fuel =>
    unfold DataW.trod at h
    rw [hu] at h
    split at h <;> simp_all [-Bool.exists_bool]
    obtain ⟨rfl, _⟩ := h
    exact ⟨_, holds_one rfl trivial rfl rfl (.b _), by simp [tBool, Rows.uptoBulk]⟩

theorem reads_str {P : Program} {t : TypeId} (hu : P.underlying t = some .string) (hc : P.cellsOf t = 1) : Reads P t tStr := by
  refine ⟨hc, fun enc W fuel cs d ps h => ?_⟩
  cases fuel with
  | zero => simp [DataW.trod] at h
  | succ fuel =>
    unfold DataW.trod at h
    rw [hu] at h
    split at h <;> simp_all
    rename_i s
    obtain ⟨hw, rfl, _⟩ := h
    exact ⟨s.data.toList, holds_one rfl (by simpa [tStr] using hw) rfl rfl (str_read s), by simp [tStr, Rows.uptoBulk]⟩

theorem list_choose {α : Type} {Q : Nat → α → Prop} : ∀ (n : Nat), (∀ i, i < n → ∃ a, Q i a) → ∃ l : List α, l.length = n ∧ ∀ (i : Nat) (a : α), l[i]? = some a → Q i a := by
  intro n
  induction n with
  | zero => intro _; exact ⟨[], rfl, fun i a h => by cases h⟩
  | succ n ih =>
    intro h
    obtain ⟨l, hl, hq⟩ := ih fun i hi => h i (by omega)
    obtain ⟨a, ha⟩ := h n (by omega)
    refine ⟨l ++ [a], by simp [hl], fun i b hb => ?_⟩
    rw [List.getElem?_append] at hb
    split at hb
    · exact hq i b hb
    · rename_i hi
      have : i = n := by
        have := (List.getElem?_eq_some_iff.1 hb).1
        simp at this; omega
      subst this
      simp [hl] at hb
      subst hb; exact ha

theorem bulk_sum {H α : Type} (size : α → Nat) : ∀ (l : List α) (xs : List (DataW H)), l.length = xs.length → (∀ (i : Nat) (a : α) (d : DataW H), l[i]? = some a → xs[i]? = some d → size a ≤ Rows.uptoBulk d) →
    (l.map size).sum ≤ Rows.uptoBulkAll xs := by
  intro l
  induction l with
  | nil => intro xs _ _; simp
  | cons a l ih =>
    intro xs hl h
    cases xs with
    | nil => simp at hl
    | cons d xs =>
      have h1 := h 0 a d rfl rfl
      have h2 := ih xs (by simpa using hl) fun i b c hb hc => h (i + 1) b c (by simpa using hb) (by simpa using hc)
      simp only [List.map_cons, List.sum_cons, Rows.uptoBulkAll]
      omega

theorem reads_sl {P : Program} {t e : TypeId} {α : Type} {T : Ty α} (hT : Reads P e T) (hu : P.underlying t = some (.slice e)) (hc : P.cellsOf t = 1) (hn : 0 < T.n) : Reads P t (tSl T) := by
  refine ⟨hc, fun enc W fuel cs d ps h => ?_⟩
  cases fuel with
  | zero => simp [DataW.trod] at h
  | succ fuel =>
    unfold DataW.trod at h
    rw [hu] at h
    split at h
    all_goals try (exfalso; simp_all; done)
    all_goals rename_i heq
    · cases heq
      simp at h
      obtain ⟨rfl, _⟩ := h
      exact ⟨[], holds_one rfl (by simp [tSl]) rfl rfl (.slnil _), by simp [tSl, Rows.uptoBulk]⟩
    · cases heq
      rename_i a len cap
      split at h
      · rename_i hb
        obtain ⟨_, hlc, hcm⟩ := hb
        obtain ⟨elems, he, h⟩ := Option.bind_eq_some_iff.1 h
        obtain ⟨rest, _, h⟩ := Option.map_eq_some_iff.1 h
        simp only [Prod.mk.injEq] at h
        obtain ⟨rfl, _⟩ := h
        have hlen : elems.length = len := by simpa using mapM_some_length he
        rcases Nat.eq_zero_or_pos len with h0 | hpos
        · subst h0
          exact ⟨[], holds_one rfl (by simp [tSl]) rfl rfl (.sle _ _ _), by simp [tSl, Rows.uptoBulk]⟩
        · have key : ∀ i, i < len → ∃ cs x, W.cells? 0 (a.add (i * P.cellsOf e)) (P.cellsOf e) = some cs ∧ elems[i]? = some x ∧ DataW.trod enc P W 0 (fun _ => true) true fuel e cs = some (x.1, x.2) := by
            intro i hi
            have hg := mapM_some_get he i i (by simp [hi])
            have hx : ∃ x, elems[i]? = some x := ⟨elems[i]'(by omega), List.getElem?_eq_getElem (by omega)⟩
            obtain ⟨x, hx⟩ := hx
            rw [hx] at hg
            obtain ⟨cs, h1, h2⟩ := Option.bind_eq_some_iff.1 hg
            exact ⟨cs, x, h1, hx, h2⟩
          have key2 : ∀ i, i < len → ∃ q : α, (∃ cs x, W.cells? 0 (a.add (i * P.cellsOf e)) (P.cellsOf e) = some cs ∧ elems[i]? = some x ∧ Holds W T q cs ∧ T.size q ≤ Rows.uptoBulk x.1) := by
            intro i hi
            obtain ⟨cs, x, h1, h2, h3⟩ := key i hi
            obtain ⟨q, h4, h5⟩ := hT.read enc W fuel cs x.1 x.2 h3
            exact ⟨q, cs, x, h1, h2, h4, h5⟩
          obtain ⟨l, hl, hq⟩ := list_choose len key2
          rw [hT.cells] at hq
          obtain ⟨blk, off, spot⟩ := a
          have hadd : ∀ (i m : Nat), i < len → m < T.n → ∃ v, W.cell? (((⟨blk, off, spot⟩ : Addr).add (i * T.n)).add m) = some v := by
            intro i m hi hm
            obtain ⟨cs, x, h1, _, h4, _⟩ := hq i (l[i]'(by omega)) (List.getElem?_eq_getElem (by omega))
            obtain ⟨_, hcl, hcc⟩ := World.cells?_some h1
            exact ⟨cs[m]'(by omega), by rw [hcc m hm]; exact List.getElem?_eq_getElem (by omega)⟩
          have h00 := hadd 0 0 hpos hn
          obtain ⟨v0, hv0⟩ := h00
          simp [Addr.add] at hv0
          have : spot = none ∧ ∃ arr Tt fz, W.heap[blk]? = some (.cells arr Tt fz) := by
            unfold World.cell? at hv0
            simp only at hv0
            split at hv0
            · rename_i c T' fz hh
              split at hv0
              · cases hv0
              · rename_i hs; exact ⟨by simpa using hs, c, T', fz, hh⟩
            · cases hv0
          obtain ⟨rfl, arr, Tt, fz, hh⟩ := this
          have hcell : ∀ o, W.cell? ⟨blk, o, none⟩ = arr[o]? := by
            intro o; unfold World.cell?; simp [hh]
          have hadd' : ∀ (i m : Nat), ((⟨blk, off, none⟩ : Addr).add (i * T.n)).add m = ⟨blk, off + i * T.n + m, none⟩ := by
            intro i m
            unfold Addr.add
            split <;> split <;> simp_all
          refine ⟨l, holds_one rfl ⟨by omega, fun b hb => ?_⟩ rfl rfl ?_, ?_⟩
          · obtain ⟨i, hi, hb⟩ := List.getElem_of_mem hb
            obtain ⟨_, _, _, _, h4, _⟩ := hq i b (by rw [← hb]; exact List.getElem?_eq_getElem hi)
            exact h4.ok
          · have hx : ∀ (j : Nat) (x : D), (l.map T.el)[j]? = some x → ∃ b, l[j]? = some b ∧ x = T.el b := by
              intro j x hx
              rw [List.getElem?_map, Option.map_eq_some_iff] at hx
              obtain ⟨b, h1, h2⟩ := hx
              exact ⟨b, h1, h2.symm⟩
            have hm : ∀ (j m : Nat) (b : α) (c : D), l[j]? = some b → (T.el b).cells[m]? = some c → ∃ v, arr[off + j * T.n + m]? = some v ∧ Rd W (fun _ => False) c v := by
              intro j m b c hb hcc
              obtain ⟨cs, x, h1, _, h4, _⟩ := hq j b hb
              have hm : m < T.n := by rw [← h4.wide.1]; exact (List.getElem?_eq_some_iff.1 hcc).1
              obtain ⟨_, hcl, hc2⟩ := World.cells?_some h1
              have := hc2 m hm
              rw [hadd', hcell] at this
              have hv : ∃ v, cs[m]? = some v := ⟨cs[m]'(by omega), List.getElem?_eq_getElem (by omega)⟩
              obtain ⟨v, hv⟩ := hv
              exact ⟨v, by rw [this, hv], h4.rd m c v hcc hv⟩
            refine .sl T.n _ blk off len cap arr Tt fz (fun j m => (arr[off + j * T.n + m]?).getD default) hh (fun h => h) (by simp [hl]) hlc (fun j x h => ?_) (fun j m x c h h' => ?_) fun j m x c h h' => ?_
            · obtain ⟨b, hb, rfl⟩ := hx j x h
              obtain ⟨_, _, _, _, h4, _⟩ := hq j b hb
              exact h4.wide
            · obtain ⟨b, hb, rfl⟩ := hx j x h
              obtain ⟨v, hv, _⟩ := hm j m b c hb h'
              rw [hv]; rfl
            · obtain ⟨b, hb, rfl⟩ := hx j x h
              obtain ⟨v, hv, hr⟩ := hm j m b c hb h'
              simp only [hv]; exact hr
          · have := bulk_sum (H := _) T.size l (elems.map (·.1)) (by simp [hl, hlen]) fun i b dd hb hd => by
              obtain ⟨_, x, _, h2, _, h5⟩ := hq i b hb
              rw [List.getElem?_map, h2] at hd
              simp at hd; subst hd; exact h5
            simp only [tSl, Rows.uptoBulk]
            omega
      · cases h

theorem readsF_last {P : Program} {f : Field} {k : Nat} {α : Type} {T : Ty α} (hT : Reads P f.type T) (hk : f.offset = k) : ReadsF P [f] k (tLast T) := by
  refine ⟨fun enc W fuel cs xs h hl => ?_⟩
  subst hk
  rw [List.mapM_cons] at h
  cases hx : DataW.trod enc P W 0 (fun _ => true) true fuel f.type ((cs.drop f.offset).take (P.cellsOf f.type)) with
  | none => simp [hx] at h
  | some x =>
    simp [hx] at h
    subst h
    obtain ⟨a, ha, hs⟩ := hT.read enc W fuel _ x.1 x.2 hx
    have hl' : f.offset + T.n = cs.length := hl
    rw [hT.cells, List.take_of_length_le (by simp; omega)] at ha
    exact ⟨a, ⟨ha.ok, ha.len, ha.wide, ha.rd⟩, by simp [tLast, Rows.uptoBulkAll]; exact hs⟩

theorem readsF_cons {P : Program} {f : Field} {fs : List Field} {k : Nat} {α β : Type} {T : Ty α} {U : Ty β} (hT : Reads P f.type T) (hk : f.offset = k) (hU : ReadsF P fs (k + T.n) U) : ReadsF P (f :: fs) k (tPair T U) := by
  refine ⟨fun enc W fuel cs xs h hl => ?_⟩
  subst hk
  rw [List.mapM_cons] at h
  cases hx : DataW.trod enc P W 0 (fun _ => true) true fuel f.type ((cs.drop f.offset).take (P.cellsOf f.type)) with
  | none => simp [hx] at h
  | some x =>
    cases hxs : fs.mapM fun f => DataW.trod enc P W 0 (fun _ => true) true fuel f.type ((cs.drop f.offset).take (P.cellsOf f.type)) with
    | none => simp [hx, hxs] at h
    | some ys =>
      simp [hx, hxs] at h
      subst h
      have hl' : f.offset + (T.n + U.n) = cs.length := hl
      obtain ⟨a, ha, hs⟩ := hT.read enc W fuel _ x.1 x.2 hx
      obtain ⟨b, hb, hs'⟩ := hU.read enc W fuel cs ys hxs (by omega)
      rw [hT.cells] at ha
      have hla : (T.el a).cells.length = T.n := ha.wide.1
      refine ⟨(a, b), ⟨⟨ha.ok, hb.ok⟩, by simp [tPair]; omega, ⟨by show ((T.el a).cells ++ (U.el b).cells).length = _; rw [List.length_append, ha.wide.1, hb.wide.1]; rfl, fun c hc => ?_⟩, fun j c v hc hv => ?_⟩, by simp [tPair, Rows.uptoBulkAll]; omega⟩
      · rcases List.mem_append.1 hc with hc | hc
        · exact ha.wide.2 c hc
        · exact hb.wide.2 c hc
      · have hc : ((T.el a).cells ++ (U.el b).cells)[j]? = some c := hc
        rw [List.getElem?_append] at hc
        split at hc
        · rename_i hj
          refine ha.rd j c v hc ?_
          rw [List.getElem?_take, if_pos (by omega)]; exact hv
        · rename_i hj
          refine hb.rd (j - T.n) c v (by rw [← hla]; exact hc) ?_
          rw [List.getElem?_drop] at hv ⊢
          rw [← hv]; congr 1; omega

theorem reads_struct {P : Program} {t : TypeId} {fs : Array Field} {α : Type} {T : Ty α} (hT : ReadsF P fs.toList 0 T) (hu : P.underlying t = some (.struct fs)) (hc : P.cellsOf t = T.n) : Reads P t T := by
  refine ⟨hc, fun enc W fuel cs d ps h => ?_⟩
  cases fuel with
  | zero => simp [DataW.trod] at h
  | succ fuel =>
    unfold DataW.trod at h
    rw [hu] at h
    simp only at h
    split at h
    · rename_i hl
      obtain ⟨xs, h1, h2⟩ := Option.map_eq_some_iff.1 h
      simp only [Prod.mk.injEq] at h2
      obtain ⟨rfl, _⟩ := h2
      obtain ⟨a, ha, hs⟩ := hT.read enc W fuel cs xs h1 (by omega)
      exact ⟨a, by simpa using ha, by simp only [Rows.uptoBulk]; exact hs⟩
    · cases h

theorem reads_map {P : Program} {t : TypeId} {α β : Type} {T : Ty α} {el : β → D} {size : β → Nat} {ok : β → Prop} (hT : Reads P t T) (f : α → β) (h : ∀ a, T.ok a → el (f a) = T.el a ∧ size (f a) ≤ T.size a ∧ ok (f a)) : Reads P t (tMap T el size ok) := by
  refine ⟨hT.cells, fun enc W fuel cs d ps hd => ?_⟩
  obtain ⟨a, ha, hs⟩ := hT.read enc W fuel cs d ps hd
  obtain ⟨h1, h2, h3⟩ := h a ha.ok
  have e : (tMap T el size ok).el (f a) = T.el a := h1
  exact ⟨f a, ⟨h3, ha.len, by rw [e]; exact ha.wide, by rw [e]; exact ha.rd⟩, Nat.le_trans h2 hs⟩

theorem sl_mem {α : Type} {T : Ty α} : ∀ {l : List α} {a : α}, a ∈ l → T.size a + 1 ≤ (tSl T).size l := by
  intro l a h
  show T.size a + 1 ≤ (l.map T.size).sum + 1
  induction l with
  | nil => cases h
  | cons b l ih =>
    simp only [List.map_cons, List.sum_cons]
    rcases List.mem_cons.1 h with rfl | h
    · omega
    · have := ih h; omega
theorem sl_len {α : Type} {T : Ty α} (h1 : ∀ a, 1 ≤ T.size a) : ∀ (l : List α), l.length + 1 ≤ (tSl T).size l := by
  intro l
  show l.length + 1 ≤ (l.map T.size).sum + 1
  induction l with
  | nil => simp
  | cons b l ih => have := h1 b; simp only [List.map_cons, List.sum_cons, List.length_cons]; omega

/-- At the top: a value that is one cell. -/
theorem top_one {P : Program} {W : World} {t : TypeId} {α : Type} {T : Ty α} {H : Type} {enc : TypeId × Value → H} {v : Value} {d : DataW H} {ps : List MemPlace} (hT : Reads P t T) (hv : v.cells = #[v]) (he : ∀ a, (T.el a).cells = [T.el a])
    (hd : DataW.Trod enc P W 0 (fun _ => true) true t v d ps) : ∃ a, T.ok a ∧ T.size a ≤ Rows.uptoBulk d ∧ Rd W (fun _ => False) (T.el a) v := by
  obtain ⟨fuel, hf⟩ := hd
  obtain ⟨a, ha, hs⟩ := hT.read enc W fuel _ d ps hf
  exact ⟨a, ha.ok, hs, ha.rd 0 _ v (by rw [he]; rfl) (by rw [hv]; rfl)⟩

theorem top_int {P : Program} {W : World} {t : TypeId} {α : Type} {T : Ty α} {k : IntKind} {H : Type} {enc : TypeId × Value → H} {base : Nat} {v : Value} {d : DataW H} {ps : List MemPlace} (hT : Reads P t T) (he : ∀ a, (T.el a).cells = [T.el a])
    (hu : P.underlying t = some (.int k)) (hval : Value.okWide P W .any base t v) (hd : DataW.Trod enc P W 0 (fun _ => true) true t v d ps) : ∃ a, T.ok a ∧ T.size a ≤ Rows.uptoBulk d ∧ Rd W (fun _ => False) (T.el a) v := by
  obtain ⟨n, rfl⟩ := okWide_int hu hval
  exact top_one hT rfl he hd
theorem top_bool {P : Program} {W : World} {t : TypeId} {α : Type} {T : Ty α} {H : Type} {enc : TypeId × Value → H} {base : Nat} {v : Value} {d : DataW H} {ps : List MemPlace} (hT : Reads P t T) (he : ∀ a, (T.el a).cells = [T.el a])
    (hu : P.underlying t = some .bool) (hval : Value.okWide P W .any base t v) (hd : DataW.Trod enc P W 0 (fun _ => true) true t v d ps) : ∃ a, T.ok a ∧ T.size a ≤ Rows.uptoBulk d ∧ Rd W (fun _ => False) (T.el a) v := by
  obtain ⟨n, rfl⟩ := okWide_bool hu hval
  exact top_one hT rfl he hd
theorem top_str {P : Program} {W : World} {t : TypeId} {α : Type} {T : Ty α} {H : Type} {enc : TypeId × Value → H} {base : Nat} {v : Value} {d : DataW H} {ps : List MemPlace} (hT : Reads P t T) (he : ∀ a, (T.el a).cells = [T.el a])
    (hu : P.underlying t = some .string) (hval : Value.okWide P W .any base t v) (hd : DataW.Trod enc P W 0 (fun _ => true) true t v d ps) : ∃ a, T.ok a ∧ T.size a ≤ Rows.uptoBulk d ∧ Rd W (fun _ => False) (T.el a) v := by
  obtain ⟨n, rfl⟩ := okWide_string hu hval
  exact top_one hT rfl he hd

theorem top_sl {P : Program} {W : World} {t e : TypeId} {α : Type} {T : Ty α} {H : Type} {enc : TypeId × Value → H} {base : Nat} {v : Value} {d : DataW H} {ps : List MemPlace} (hT : Reads P t T) (he : ∀ a, (T.el a).cells = [T.el a])
    (hu : P.underlying t = some (.slice e)) (hval : Value.okWide P W .any base t v) (hd : DataW.Trod enc P W 0 (fun _ => true) true t v d ps) : ∃ a, T.ok a ∧ T.size a ≤ Rows.uptoBulk d ∧ Rd W (fun _ => False) (T.el a) v := by
  obtain ⟨a0, len0, cap0, rfl⟩ := okWide_slice hu hval
  exact top_one hT rfl he hd

theorem top_struct {P : Program} {W : World} {t : TypeId} {fs : Array Field} {α : Type} {T : Ty α} {H : Type} {enc : TypeId × Value → H} {base : Nat} {v : Value} {d : DataW H} {ps : List MemPlace} (hT : Reads P t T) (he : ∀ a, T.el a = .agg (T.el a).cells)
    (hu : P.underlying t = some (.struct fs)) (hval : Value.okWide P W .any base t v) (hd : DataW.Trod enc P W 0 (fun _ => true) true t v d ps) : ∃ a, T.ok a ∧ T.size a ≤ Rows.uptoBulk d ∧ Rd W (fun _ => False) (T.el a) v := by
  obtain ⟨cs, rfl, hcs⟩ := okWide_struct hu hval
  obtain ⟨fuel, hf⟩ := hd
  obtain ⟨a, ha, hs⟩ := hT.read enc W fuel _ d ps hf
  refine ⟨a, ha.ok, hs, ?_⟩
  rw [he]
  refine .agg _ _ ?_ fun j c v h1 h2 => ha.rd j c v h1 ?_
  · rw [ha.wide.1, hcs, hT.cells]
  · simpa [Value.cells] using h2
end Go.Proofs.YtbfkfmpfdafogaaGreatDoor

/-
  Rows that name the tables of unicode/utf8 (which no walk reads), and those of the digest.
-/
namespace Go.Proofs.YtbfkfmpfdafogaaGreatDoor
open Go.Eng Go.ChangeShapes Go.WideShapes Go.ChangeAt Go.RowKit

def datCells : Nat → DataW Unit → List Value
  | 0, _ => []
  | _ + 1, .lit (.int k n) => [.int k n]
  | m + 1, .agg l => l.flatMap (datCells m)
  | _ + 1, _ => []
def datBlock (d : DataW Unit) : Obj → Obj
  | .cells _ t frozen => .cells (datCells 5 d).toArray t frozen
  | o => o
def laidU : List (String × DataW Unit) := [("unicode/utf8.acceptRanges", Rows.laid_unicode_utf8_acceptRanges), ("unicode/utf8.first", Rows.laid_unicode_utf8_first)]
theorem runU {f : FuncId} {ds : List D} {W : World} {vs : Array Value} (h : Does (CG []) f ds [.b true]) (_ : laidMetH Tryz.prog laidU W) (hl : ds.length = vs.size)
    (hr : ∀ (j : Nat) (d : D) (v : Value), ds[j]? = some d → vs[j]? = some v → Rd W (fun _ => False) d v) :
    Calls Tryz.prog f vs W fun e W' => e = .returned (.bool true) ∧ Below W.heap.size W W' := by
  refine (h.2 W (fun _ => False) vs (fun b h => h.elim) (fun x hx => by cases hx) hl hr).mono fun e W' hh => ?_
  obtain ⟨v, rfl, hr, hb⟩ := hh
  exact ⟨by rw [hr.dinv.binv], hb⟩
noncomputable def laidWorldU (os : Os) : World :=
  { World.holding Tryz.prog os ⟨#[], #[], []⟩ with heap := ((World.holding Tryz.prog os ⟨#[], #[], []⟩).heap.modify 4 (datBlock Rows.laid_unicode_utf8_acceptRanges)).modify 3 (datBlock Rows.laid_unicode_utf8_first) }
theorem laid_metU (os : Os) (args : Array Value) : laidMet Tryz.prog laidU ((laidWorldU os).forCall (fun _ _ => 0) ⟨#[], args, []⟩).memory :=
  laidMet_of_run' 70 (by kernel_rfl) (by kernel_rfl)

def laidV : List (String × DataW Unit) := [("unicode/utf8.acceptRanges", Rows.laid_unicode_utf8_acceptRanges), ("canary/digest.initial", Rows.laid_canary_digest_initial), ("canary/digest.constants", Rows.laid_canary_digest_constants), ("unicode/utf8.first", Rows.laid_unicode_utf8_first)]
def numsV (x : Gl) : List Int := x.xs.map fun d => match d with | .i _ n => n | _ => 0
theorem globsV {W : World} (h0 : laidMet Tryz.prog laidV W) (X : Nat → Prop) (hX : ∀ b, ¬ X b) : ∀ x, x ∈ gD [] → x.g < W.heap.size ∧ ¬ X x.g ∧ GlobAt W X x := by
  have tI : Lib.TabIs Tryz.prog W "canary/digest.initial" .u32 (numsV glShaI) :=
    Lib.tabIs_of_head (g := 1) (t := 107) (e := 106) (n := 8) (by kernel_rfl) (by kernel_rfl) (by kernel_rfl) (by kernel_rfl) (by kernel_rfl) (by kernel_rfl) (laidMet.tail h0)
  have tK : Lib.TabIs Tryz.prog W "canary/digest.constants" .u32 (numsV glShaK) :=
    Lib.tabIs_of_head (g := 2) (t := 135) (e := 106) (n := 64) (by kernel_rfl) (by kernel_rfl) (by kernel_rfl) (by kernel_rfl) (by kernel_rfl) (by kernel_rfl) (laidMet.tail (laidMet.tail h0))
  intro x hx
  simp only [gD, List.mem_cons, List.not_mem_nil, or_false] at hx
  rcases hx with rfl | rfl
  · obtain ⟨h1, h2⟩ := glob_of_tab (X := X) (x := glShaK) tK (g := 2) (by kernel_rfl) rfl
    exact ⟨h1, hX _, h2⟩
  · obtain ⟨h1, h2⟩ := glob_of_tab (X := X) (x := glShaI) tI (g := 1) (by kernel_rfl) rfl
    exact ⟨h1, hX _, h2⟩
theorem runV {f : FuncId} {ds : List D} {W : World} {vs : Array Value} (h : Does (CG (gD [])) f ds [.b true]) (hL : laidMetH Tryz.prog laidV W) (hl : ds.length = vs.size)
    (hr : ∀ (j : Nat) (d : D) (v : Value), ds[j]? = some d → vs[j]? = some v → Rd W (fun _ => False) d v) :
    Calls Tryz.prog f vs W fun e W' => e = .returned (.bool true) ∧ Below W.heap.size W W' := by
  refine (h.2 W (fun _ => False) vs (fun b h => h.elim) (globsV (show laidMet Tryz.prog laidV W from hL) _ fun _ h => h) hl hr).mono fun e W' hh => ?_
  obtain ⟨v, rfl, hr, hb⟩ := hh
  exact ⟨by rw [hr.dinv.binv], hb⟩
noncomputable def laidWorldV (os : Os) : World :=
  { laidWorldU os with heap := ((laidWorldU os).heap.modify 1 (datBlock Rows.laid_canary_digest_initial)).modify 2 (datBlock Rows.laid_canary_digest_constants) }
theorem laid_metV (os : Os) (args : Array Value) : laidMet Tryz.prog laidV ((laidWorldV os).forCall (fun _ _ => 0) ⟨#[], args, []⟩).memory :=
  laidMet_of_run' 70 (by kernel_rfl) (by kernel_rfl)
end Go.Proofs.YtbfkfmpfdafogaaGreatDoor

