/-
  Append: its reckoning, and that it speaks true.
-/
import Derived.Test.YtpogmmcfkdofhaaDoorEngN
namespace Go.Eng

/-- Room for what is appended. -/
structure AppK (n : Nat) (K : Prop) : Prop where
  out : n ≤ 68719476736 ∧ K
theorem app_ok {n : Nat} {K : Prop} (h : n ≤ 68719476736) (h1 : K) : AppK n K := ⟨h, h1⟩

section
variable {C : Ctx} {n : Nat} {o : Oper} {nm : Nat} {st : AS} {K : KO}

def srcK (C : Ctx) (st : AS) (sz : Nat) (T : TypeId) (x : AV) (K : List D → List Nat → Prop) : Prop :=
  lookK C.tab T fun ti => match ti.kd with
    | .slice _ => match x with
      | .d (.sl s ys) => match Nat.beq s sz with | true => K ys [] | false => False
      | .nl _ => K [] []
      | .os k => ownK st k fun e => match e with | .buf s ys => (match Nat.beq s sz with | true => K ys [k] | false => False) | _ => False
      | _ => False
    | .str => match x, sz with
      | .d (.s l), 1 => K (encB l) []
      | _, _ => False
    | _ => False

/-- What the second argument of an append yields. -/
structure SrcOk (P : Program) (sz : Nat) (T : TypeId) (v : Value) (ys : List D) (w : World) (X : Nat → Prop) (nw : List Value) : Prop where
  src : Src P sz T v ys.length nw w
  wid : ∀ (j : Nat) (y : D), ys[j]? = some y → y.wd sz
  rd : ∀ (j m : Nat) (y c : D), ys[j]? = some y → y.cells[m]? = some c → ∃ u, nw[j * sz + m]? = some u ∧ Rd w X c u

theorem src_row {P : Program} {w : World} {X : Nat → Prop} {sz e' : Nat} {T : TypeId} (hk : P.underlying T = some (.slice e')) {ys : List D} {blk off cap : Nat} {arr : Array Value} {U : TypeId} {fz : Nat × Nat} {f : Nat → Nat → Value}
    (hh : w.heap[blk]? = some (.cells arr U fz)) (hw : ∀ (j : Nat) (x : D), ys[j]? = some x → x.wd sz)
    (h1 : ∀ (j m : Nat) (x c : D), ys[j]? = some x → x.cells[m]? = some c → arr[off + j * sz + m]? = some (f j m)) (h2 : ∀ (j m : Nat) (x c : D), ys[j]? = some x → x.cells[m]? = some c → Rd w X c (f j m)) :
    ∃ nw, SrcOk P sz T (.slice (some ⟨blk, off, none⟩) ys.length cap) ys w X nw := by
  have hdm : ∀ i, i < ys.length * sz → ∃ y c, ys[i / sz]? = some y ∧ y.cells[i % sz]? = some c ∧ i / sz * sz + i % sz = i := by
    intro i hi
    have hpos : 0 < sz := by
      rcases Nat.eq_zero_or_pos sz with h | h
      · rw [h] at hi; omega
      · exact h
    have hq : i / sz < ys.length := Nat.div_lt_of_lt_mul (by rw [Nat.mul_comm]; exact hi)
    have hy : ys[i / sz]? = some ys[i / sz] := by simp [hq]
    have hwd := hw _ _ hy
    have hm : i % sz < ys[i / sz].cells.length := by rw [hwd.1]; exact Nat.mod_lt _ hpos
    exact ⟨_, _, hy, by rw [List.getElem?_eq_getElem hm], by rw [Nat.mul_comm]; exact Nat.div_add_mod i sz⟩
  let nw := (List.range (ys.length * sz)).map fun i => arr.getD (off + i) undef
  have hnw : ∀ i, i < ys.length * sz → nw[i]? = some (arr.getD (off + i) undef) := by
    intro i hi; simp [nw, hi]
  have hval : ∀ (j m : Nat) (y c : D), ys[j]? = some y → y.cells[m]? = some c → arr[off + (j * sz + m)]? = some (f j m) := by
    intro j m y c hy hc
    have := h1 j m y c hy hc
    rw [← this]; congr 1; omega
  refine ⟨nw, Src.ofSlice w hk _ _ _ nw (by simp [nw]) (fun i u hu => ?_) (fun u hu => ?_), hw, fun j m y c hy hc => ?_⟩
  · have hi : i < ys.length * sz := by
      have := (List.getElem?_eq_some_iff.1 hu).1; simpa [nw] using this
    obtain ⟨y, c, hy, hc, he⟩ := hdm i hi
    have h3 := hval _ _ y c hy hc
    rw [he] at h3
    rw [hnw i hi] at hu
    cases hu
    rw [Addr.add_mk, cell_of hh, h3]
    simp [Array.getD_eq_getD_getElem?, h3]
  · obtain ⟨i, hi⟩ := List.mem_iff_getElem?.1 hu
    have hlt : i < ys.length * sz := by
      have := (List.getElem?_eq_some_iff.1 hi).1; simpa [nw] using this
    obtain ⟨y, c, hy, hc, he⟩ := hdm i hlt
    have h3 := hval _ _ y c hy hc
    rw [he] at h3
    rw [hnw i hlt] at hi
    cases hi
    rw [Array.getD_eq_getD_getElem?, h3]
    exact (h2 _ _ y c hy hc).one ((hw _ _ hy).2 c (List.mem_of_getElem? hc))
  · have hj : j < ys.length := (List.getElem?_eq_some_iff.1 hy).1
    have hm : m < sz := by rw [← (hw _ _ hy).1]; exact (List.getElem?_eq_some_iff.1 hc).1
    have hlt : j * sz + m < ys.length * sz := by
      have h9 : (j + 1) * sz ≤ ys.length * sz := Nat.mul_le_mul_right _ hj
      rw [Nat.add_mul] at h9; omega
    refine ⟨_, hnw _ hlt, ?_⟩
    have h3 := hval j m y c hy hc
    rw [Array.getD_eq_getD_getElem?, h3]
    exact h2 _ _ y c hy hc

theorem src_of {P : Program} {w : World} {X : Nat → Prop} {sz e' : Nat} {T : TypeId} (hk : P.underlying T = some (.slice e')) {ys : List D} {v : Value} (h : Rd w X (.sl sz ys) v) : ∃ nw, SrcOk P sz T v ys w X nw := by
  cases h with
  | slnil => exact ⟨[], Src.ofNil w hk 0, fun j y hy => by simp at hy, fun j m y c hy => by simp at hy⟩
  | sle _ a cap => exact ⟨[], Src.ofSlice w hk a 0 cap [] (by simp) (fun j u h => by simp at h) (fun u h => by cases h), fun j y hy => by simp at hy, fun j m y c hy => by simp at hy⟩
  | sl _ _ blk off len cap arr U fz f hh hX hl hc hw h1 h2 =>
    subst hl
    exact src_row hk hh hw h1 h2

theorem src_own {P : Program} {w : World} {α : Nat → Loc} {X : Nat → Prop} {sz e' k : Nat} {T : TypeId} (hk : P.underlying T = some (.slice e')) {ys : List D} (h : Own w α X k (.buf sz ys)) : ∃ nw, SrcOk P sz T (α k).hv ys w X nw := by
  rcases h with ⟨_, ⟨sz', he⟩, hv⟩ | ⟨hnil, arr, U, fz, cap, hB⟩
  · cases he; rw [hv]; exact ⟨[], Src.ofNil w hk 0, fun j y hy => by simp at hy, fun j m y c hy => by simp at hy⟩
  · rw [hB.hv sz ys rfl]
    have hval : ∀ (j m : Nat) (x c : D), ys[j]? = some x → x.cells[m]? = some c → arr[(α k).off + j * sz + m]? = some (arr.getD ((α k).off + j * sz + m) undef) ∧ Rd w X c (arr.getD ((α k).off + j * sz + m) undef) := by
      intro j m x c hx hc
      obtain ⟨v, hv, hr⟩ := hB.rd j m _ (cell_d (e := .buf sz ys) rfl hx hc)
      simp only [Ent.sz] at hv
      simp [Array.getD_eq_getD_getElem?, hv, hr.dinv]
    exact src_row (f := fun j m => arr.getD ((α k).off + j * sz + m) undef) hk hB.heap hB.wid (fun j m x c hx hc => (hval j m x c hx hc).1) fun j m x c hx hc => (hval j m x c hx hc).2

theorem srcK_out {sz : Nat} {T : TypeId} {x : AV} {K : List D → List Nat → Prop} (h : srcK C st sz T x K) :
    ∃ ys us, K ys us ∧ ∀ {G X0 F w0 n p α S a w}, Sim G X0 F w0 n p α S a w → (∀ k, k ∈ us → ∀ e, st.ss.own k = some e → S.own k = some e) →
      ∀ v, RdA w α (XX α S.own X0) x v → ∃ nw, SrcOk C.P sz T v ys w (XX α S.own X0) nw := by
  unfold srcK at h
  replace h := lookK_out h; obtain ⟨ti, hti, h⟩ := h
  split at h
  · rename_i e hk
    have hu := und_slice (C.ty hti) hk
    split at h
    · rename_i s ys
      split at h
      · rename_i hs
        obtain rfl := Nat.eq_of_beq_eq_true hs
        refine ⟨_, _, h, fun hs _ v hr => ?_⟩
        exact src_of (P := C.P) hu hr.dinv
      · cases h
    · refine ⟨_, _, h, fun hs _ v hr => ?_⟩
      cases hr
      exact src_of (P := C.P) hu (Rd.slnil sz)
    · rename_i k
      replace h := ownK_out h; obtain ⟨en, hen, h⟩ := h
      split at h
      · split at h
        · rename_i hs
          obtain rfl := Nat.eq_of_beq_eq_true hs
          refine ⟨_, _, h, fun hs ho v hr => ?_⟩
          cases hr
          exact src_own (P := C.P) hu (hs.own k _ (ho k (by simp) _ hen))
        · cases h
      · cases h
    · cases h
  · rename_i hk
    have hu := und_str (C.ty hti) hk
    split at h
    · rename_i l
      refine ⟨_, _, h, fun {G X0 F w0 n p α S a w} hs _ v hr => ?_⟩
      rw [hr.dinv.sinv]
      refine ⟨byteCells ⟨l.toArray⟩, ⟨?_, ?_, ?_⟩⟩
      · have := Src.ofString (P := C.P) w hu ⟨l.toArray⟩
        rw [size_mk] at this
        simpa [encB] using this
      · intro j d hd
        obtain ⟨c, _, rfl⟩ := encB_get hd
        exact ⟨rfl, fun c hc => by simp [D.cells] at hc; subst hc; rfl⟩
      · intro j m d c hd hc
        obtain ⟨b, hb, rfl⟩ := encB_get hd
        cases m with
        | zero =>
          simp [D.cells] at hc; subst hc
          exact ⟨_, by simp [byteCells, hb], .i _ _⟩
        | succ m => simp [D.cells] at hc
    · cases h
  · cases h


theorem zeroCells_size (z : Array Value) (m : Nat) : (Builtin.zeroCells z m).size = m * z.size := by simp [Builtin.zeroCells]

theorem two_rows {xs ys : List D} {sz : Nat} {ol nw : List Value} {P : D → Value → Prop} (hol : ol.length = xs.length * sz)
    (h1 : ∀ (j m : Nat) (x c : D), xs[j]? = some x → x.cells[m]? = some c → ∃ u, ol[j * sz + m]? = some u ∧ P c u)
    (h2 : ∀ (j m : Nat) (x c : D), ys[j]? = some x → x.cells[m]? = some c → ∃ u, nw[j * sz + m]? = some u ∧ P c u)
    (j m : Nat) (x c : D) (hx : (xs ++ ys)[j]? = some x) (hc : x.cells[m]? = some c) : ∃ u, (ol ++ nw)[j * sz + m]? = some u ∧ P c u := by
  by_cases hj : j < xs.length
  · rw [List.getElem?_append_left hj] at hx
    obtain ⟨u, h3, h4⟩ := h1 j m x c hx hc
    exact ⟨u, by rw [List.getElem?_append_left (List.getElem?_eq_some_iff.1 h3).1]; exact h3, h4⟩
  · rw [List.getElem?_append_right (by omega)] at hx
    obtain ⟨u, h3, h4⟩ := h2 _ m x c hx hc
    refine ⟨u, ?_, h4⟩
    have : xs.length * sz ≤ j * sz := Nat.mul_le_mul_right _ (by omega)
    rw [List.getElem?_append_right (by rw [hol]; omega), hol, ← h3]
    congr 1
    rw [Nat.sub_mul]; omega

theorem app_grow {P : Program} {w : World} {α : Nat → Loc} {X : Nat → Prop} {p : Nat → Prop} {T Tx ty e : TypeId} {te : TyI} (hu : P.underlying T = some (.slice e)) (hte : TyOk P e te) (hz : te.zero.length = te.size) (hby : te.bytes ≤ 2048)
    {base : Option Addr} {sCap : Nat} {xs ys : List D} {ol nw : List Value} {v : Value} (hsrc : SrcOk P te.size Tx v ys w X nw)
    (hold : (Builtin.firstCells te.size xs.length (.slice base xs.length sCap)).run P w.drew = .ok ol.toArray w.drew) (hol : ol.length = xs.length * te.size) (hwx : ∀ (j : Nat) (x : D), xs[j]? = some x → x.wd te.size)
    (h1 : ∀ (j m : Nat) (x c : D), xs[j]? = some x → x.cells[m]? = some c → ∃ u, ol[j * te.size + m]? = some u ∧ Rd w X c u)
    (hg : sCap < xs.length + ys.length) (hle : xs.length + ys.length ≤ 68719476736) :
    ∃ w' hv arr cap, Made w w' α X p (.buf te.size (xs ++ ys)) hv arr e (0, 0) cap ∧ (Builtin.append_ #[T, Tx] ty #[.slice base xs.length sCap, v]).run P w = .ok hv w' := by
  obtain ⟨⟨i, hi, his, hib, z, hzz, hzl⟩, _⟩ := hte
  have hzsz : z.cells.size = te.size := by
    have := (zl_get hzl).1; simp at this; omega
  have hfit : Builtin.nextslicecap (xs.length + ys.length) sCap * i.bytes ≤ 281474976710656 := by
    have h3 := Room.nextslicecap_le' hg
    rw [hib]
    calc _ ≤ (2 * 68719476736) * 2048 := Nat.mul_le_mul (by omega) hby
      _ = 281474976710656 := by decide
  have hrun := run_append_grow_src (P := P) w T Tx ty e i z hu hi hzz base xs.length sCap ol (by rw [his]; exact hold) v ys.length nw (by rw [his]; exact hsrc.src) hg (by omega) hfit
  have hcap : xs.length + ys.length ≤ grownCap w (xs.length + ys.length) sCap e := by simp [grownCap, Question.cut]
  have hnl := hsrc.src.newsLen
  refine ⟨_, _, (ol ++ nw).toArray ++ Builtin.zeroCells z.cells (grownCap w (xs.length + ys.length) sCap e - (xs.length + ys.length)), grownCap w (xs.length + ys.length) sCap e, ?_, hrun⟩
  refine ⟨rfl, rfl, rfl, rfl, by simpa [Ent.len] using hcap, ?_, (fun o _ => by simp), ?_, ?_, (fun x hx => by cases hx), ?_, rfl⟩
  · simp only [Ent.sz, Array.size_append, List.size_toArray, List.length_append, hol, hnl, zeroCells_size, hzsz]
    rw [← Nat.add_mul, ← Nat.add_mul]
    exact Nat.mul_le_mul_right _ (by omega)
  · intro j x hx
    by_cases hj : j < xs.length
    · rw [List.getElem?_append_left hj] at hx; exact hwx j x hx
    · rw [List.getElem?_append_right (by omega)] at hx; exact hsrc.wid _ x hx
  · intro j m c hc
    simp only [Ent.cell, Option.bind_eq_some_iff, Option.map_eq_some_iff] at hc
    obtain ⟨x, hx, y, hy, rfl⟩ := hc
    obtain ⟨u, h3, h4⟩ := two_rows hol h1 hsrc.rd j m x y hx hy
    refine ⟨u, ?_, .d _ _ h4⟩
    have hlt := (List.getElem?_eq_some_iff.1 h3).1
    rw [Array.getElem?_append_left (by simpa [Ent.sz] using hlt)]
    simpa [Ent.sz] using h3
  · intro sz xs' h; cases h; simp

/-- Appending to an owned row. -/
theorem app_own {G : List Gl} {X0 : Nat → Prop} {F : Fr} {w0 : World} {n nm : Nat} {q : Nat → Prop} {α : Nat → Loc} {S : SS} {a : Act} {w : World} (hs : Sim G X0 F w0 n q α S a w) (hp : ∀ k, fam nm k → ¬ q k)
    {P : Program} {T Tx ty e : TypeId} {te : TyI} (hu : P.underlying T = some (.slice e)) (hte : TyOk P e te) (hz : te.zero.length = te.size) (hby : te.bytes ≤ 2048) {k : Nat} {xs ys : List D} {nw : List Value} {v : Value}
    (hSk : S.own k = some (.buf te.size xs)) (hsrc : SrcOk P te.size Tx v ys w (XX α S.own X0) nw) (hle : xs.length + ys.length ≤ 68719476736) (dst : Option Nat) (hd : ∀ d, dst = some d → d < n) :
    ∃ α' v' w', (Builtin.append_ #[T, Tx] ty #[(α k).hv, v]).run P w = .ok v' w' ∧
      Sim G X0 F w0 n (fun k => q k ∨ fam nm k) α' (S.upd dst (.os (16 * nm)) [(16 * nm, some (.buf te.size (xs ++ ys))), (k, none)]) (a.put dst v') w' := by
  rcases hs.own k _ hSk with ⟨hnil, ⟨sz', he⟩, hv⟩ | ⟨hnil, arr, U, fz, cap, hB⟩
  · cases he
    rw [hv]
    by_cases hy : ys.length = 0
    · have hys : ys = [] := List.eq_nil_of_length_eq_zero hy
      subst hys
      have hn0 : nw = [] := List.eq_nil_of_length_eq_zero (by have := hsrc.src.newsLen; simpa using this)
      subst hn0
      obtain ⟨⟨i, hi, his, _⟩, _⟩ := hte
      have hrun : (Builtin.append_ #[T, Tx] ty #[.slice none 0 0, v]).run P w = .ok (.slice none 0 0) w := by
        have hc := hsrc.src.cells
        rcases hsrc.src.kind with ⟨e', hk⟩ | hk <;> simp [Builtin.append_, run_underlying hu, run_underlying hk, sizeOf, typeInfo, hi, his, hsrc.src.len]
        all_goals (first | simpa using hc | (simp at hc; simp [hc]))
      obtain ⟨α', h⟩ := hs.nilrow hp te.size [k] dst hd
      exact ⟨α', _, w, hrun, h⟩
    · obtain ⟨w', hv', arr, cap, hM, hrun⟩ := app_grow (α := α) (p := q) (ty := ty) (xs := []) (base := none) (sCap := 0) (ol := []) hu hte hz hby hsrc (run_firstCells_none _ _ _ _ _) (by simp) (fun j x hx => by simp at hx) (fun j m x c hx => by simp at hx)
        (by simp; omega) (by simpa using hle)
      obtain ⟨α', h⟩ := hs.make hp hM [k] dst hd (.os (16 * nm)) (.inl rfl)
      exact ⟨α', _, w', hrun, h⟩
  · rw [hB.hv te.size xs rfl]
    have hzz := hB.hsz
    simp only [Ent.sz] at hzz
    have hbd := hB.bnd
    simp only [Ent.sz] at hbd
    by_cases hroom : xs.length + ys.length ≤ cap
    · obtain ⟨⟨i, hi, his, _⟩, _⟩ := hte
      have hnl := hsrc.src.newsLen
      have hfits : (xs.length + ys.length) * te.size ≤ cap * te.size := Nat.mul_le_mul_right _ hroom
      rw [Nat.add_mul] at hfits
      have hrun := run_append_room_src (P := P) w T Tx ty e i hu hi (α k).blk (α k).off xs.length cap v ys.length nw (by rw [his]; exact hsrc.src) hroom
        (fun j hj => by
          rw [his, cell_of hB.heap]
          have : (α k).off + xs.length * te.size + j < arr.size := by omega
          simp [this])
        (fun j hj => by
          rw [his]
          exact nf_frozen hB.heap (hB.nf _ (by omega) (by simp only [Ent.sz]; omega)))
      rw [his] at hrun
      obtain ⟨arr', h1, h2, h3, h4, h5, h6, h7, h8⟩ := heap_setCells (α k).blk nw ((α k).off + xs.length * te.size) w arr U fz hB.heap
      have hW : Wrote w (w.setCells (α k).blk ((α k).off + xs.length * te.size) nw) α (XX α S.own X0) q (α k) (.buf te.size (xs ++ ys)) (.slice (some ⟨(α k).blk, (α k).off, none⟩) (xs.length + ys.length) cap) arr' U fz cap := by
        refine ⟨h1, h3, h4, h5, h6, h7, hzz, by simpa [Ent.len] using hroom, by simp only [Ent.sz]; rw [h2]; exact hbd, hB.nf, ?_, ?_, (fun x hx => by cases hx), ?_, rfl⟩
        · intro j x hx
          by_cases hj : j < xs.length
          · rw [List.getElem?_append_left hj] at hx; exact hB.wid j x hx
          · rw [List.getElem?_append_right (by omega)] at hx; exact hsrc.wid _ x hx
        · intro j m c hc
          simp only [Ent.cell, Option.bind_eq_some_iff, Option.map_eq_some_iff] at hc
          obtain ⟨x, hx, y, hy, rfl⟩ := hc
          simp only [Ent.sz]
          rw [h8]
          by_cases hj : j < xs.length
          · rw [List.getElem?_append_left hj] at hx
            have hm : m < te.size := by rw [← (hB.wid j x hx).1]; exact (List.getElem?_eq_some_iff.1 hy).1
            have h9 : (j + 1) * te.size ≤ xs.length * te.size := Nat.mul_le_mul_right _ hj
            rw [Nat.add_mul] at h9
            rw [if_neg (by omega)]
            exact hB.rd j m _ (cell_d (e := .buf te.size xs) rfl hx hy)
          · rw [List.getElem?_append_right (by omega)] at hx
            obtain ⟨u, h10, h11⟩ := hsrc.rd _ m x y hx hy
            have hlt := (List.getElem?_eq_some_iff.1 h10).1
            have h12 : xs.length * te.size ≤ j * te.size := Nat.mul_le_mul_right _ (by omega)
            have h13 : (j - xs.length) * te.size = j * te.size - xs.length * te.size := Nat.sub_mul _ _ _
            rw [if_pos (by omega)]
            refine ⟨u, ?_, .d _ _ h11⟩
            rw [← h10]; congr 1; omega
        · intro sz xs' h; cases h; simp
      obtain ⟨α', h⟩ := hs.write hp false hSk hnil hW (fun h => by cases h) dst hd (.os (16 * nm)) (.slice (some ⟨(α k).blk, (α k).off, none⟩) (xs.length + ys.length) cap) (.inr ⟨rfl, rfl⟩) (.inr rfl)
      exact ⟨α', _, _, hrun, h⟩
    · have hval : ∀ (j m : Nat) (x c : D), xs[j]? = some x → x.cells[m]? = some c → arr[(α k).off + j * te.size + m]? = some (arr.getD ((α k).off + j * te.size + m) undef) ∧ Rd w (XX α S.own X0) c (arr.getD ((α k).off + j * te.size + m) undef) := by
        intro j m x c hx hc
        obtain ⟨v, hv, hr⟩ := hB.rd j m _ (cell_d (e := .buf te.size xs) rfl hx hc)
        simp only [Ent.sz] at hv
        simp [Array.getD_eq_getD_getElem?, hv, hr.dinv]
      have hcl := hB.len
      simp only [Ent.len] at hcl
      have hxsz : xs.length * te.size ≤ cap * te.size := Nat.mul_le_mul_right _ hcl
      let ol := (List.range (xs.length * te.size)).map fun i => arr.getD ((α k).off + i) undef
      obtain ⟨w', hv', arr2, cap2, hM, hrun⟩ := app_grow (α := α) (p := q) (ty := ty) (xs := xs) (base := some ⟨(α k).blk, (α k).off, none⟩) (sCap := cap) (ol := ol) hu hte hz hby hsrc
        (run_firstCells_some w.drew te.size xs.length ⟨(α k).blk, (α k).off, none⟩ xs.length cap ol (by simp [ol]) (fun j u hj => by
          have hlt : j < xs.length * te.size := by
            have := (List.getElem?_eq_some_iff.1 hj).1; simpa [ol] using this
          rw [Addr.add_mk]
          have hh : w.drew.heap[(α k).blk]? = some (.cells arr U fz) := hB.heap
          rw [cell_of hh]
          simp [ol, hlt] at hj
          rw [← hj]
          have : (α k).off + j < arr.size := by omega
          simp [this])) (by simp [ol]) hB.wid
        (fun j m x c hx hc => by
          obtain ⟨h1, h2⟩ := hval j m x c hx hc
          have hm : m < te.size := by rw [← (hB.wid j x hx).1]; exact (List.getElem?_eq_some_iff.1 hc).1
          have hj := (List.getElem?_eq_some_iff.1 hx).1
          have h9 : (j + 1) * te.size ≤ xs.length * te.size := Nat.mul_le_mul_right _ hj
          rw [Nat.add_mul] at h9
          refine ⟨arr.getD ((α k).off + (j * te.size + m)) undef, ?_, by rw [← Nat.add_assoc]; exact h2⟩
          simp only [ol, List.getElem?_map]
          rw [List.getElem?_range (by omega)]
          rfl) (by omega) hle
      obtain ⟨α', h⟩ := hs.make hp hM [k] dst hd (.os (16 * nm)) (.inl rfl)
      exact ⟨α', _, w', hrun, h⟩

end
end Go.Eng
