/-
  Stores and appends: their reckoning, and that it speaks true.
-/
import Derived.Test.YtpogmmcfkdofhaaDoorEngM
namespace Go.Eng

/-- A row of stores in one block of cells. -/
theorem heap_setCells (b : Nat) : ∀ (vs : List Value) (o : Nat) (w : World) (arr : Array Value) (T : TypeId) (fz : Nat × Nat), w.heap[b]? = some (.cells arr T fz) →
    ∃ arr', (w.setCells b o vs).heap[b]? = some (.cells arr' T fz) ∧ arr'.size = arr.size ∧ (∀ i, i ≠ b → (w.setCells b o vs).heap[i]? = w.heap[i]?) ∧ (w.setCells b o vs).heap.size = w.heap.size ∧
      (w.setCells b o vs).os = w.os ∧ (w.setCells b o vs).tape = w.tape ∧ (w.setCells b o vs).output = w.output ∧
      ∀ j, arr'[j]? = if o ≤ j ∧ j < o + vs.length ∧ j < arr.size then vs[j - o]? else arr[j]? := by
  intro vs
  induction vs with
  | nil =>
    intro o w arr T fz h
    exact ⟨arr, h, rfl, (fun _ _ => rfl), rfl, rfl, rfl, rfl, fun j => by rw [if_neg]; simp; omega⟩
  | cons v r ih =>
    intro o w arr T fz h
    have h1 : (w.setCell ⟨b, o, none⟩ v).heap[b]? = some (.cells (arr.setIfInBounds o v) T fz) := by
      have hlt : b < w.heap.size := (Array.getElem?_eq_some_iff.1 h).1
      have hg := (Array.getElem?_eq_some_iff.1 h).2
      simp only [World.setCell]
      rw [Array.getElem?_modify, if_pos rfl, h]
      rfl
    obtain ⟨arr', h2, h3, h4, h5, h6, h7, h8, h9⟩ := ih (o + 1) _ _ T fz h1
    refine ⟨arr', h2, by simpa using h3, fun i hi => ?_, h5.trans (by simp [World.setCell]), h6, h7, h8, fun j => ?_⟩
    · rw [World.setCells, h4 i hi]
      simp [World.setCell, Array.getElem?_modify, Ne.symm hi]
    · rw [h9 j]
      simp only [Array.size_setIfInBounds, List.length_cons]
      by_cases hj : j = o
      · subst hj
        rw [if_neg (by omega)]
        by_cases hs : j < arr.size
        · rw [if_pos (by omega)]; simp [hs]
        · rw [if_neg (by omega)]; simp [hs]
      · by_cases hj2 : o + 1 ≤ j ∧ j < o + 1 + r.length ∧ j < arr.size
        · rw [if_pos hj2, if_pos (by omega), show j - o = (j - (o + 1)) + 1 by omega]; simp
        · rw [if_neg hj2, if_neg (by omega), Array.getElem?_setIfInBounds_ne (fun e => hj e.symm)]

theorem nf_frozen {w : World} {b : Nat} {arr : Array Value} {T : TypeId} {fz : Nat × Nat} (h : w.heap[b]? = some (.cells arr T fz)) {o : Nat} (hn : ¬ (fz.1 ≤ o ∧ o < fz.2)) : w.frozen? ⟨b, o, none⟩ = false := by
  obtain ⟨lo, hi⟩ := fz
  simp only [World.frozen?, h]
  simp only at hn
  by_cases h1 : lo ≤ o
  · by_cases h2 : o < hi
    · exact absurd ⟨h1, h2⟩ hn
    · simp [h2]
  · simp [h1]

section
variable {C : Ctx} {n : Nat} {o : Oper} {nm : Nat} {st : AS} {K : KO}

/-! #### Stores -/

structure SetK {β : Type} (xs : List β) (i : Nat) (K : β → Prop) : Prop where
  out : ∃ x, xs[i]? = some x ∧ K x
theorem set_is {β : Type} {xs : List β} {i : Nat} {K : β → Prop} {x : β} (h : xs[i]? = some x) (h1 : K x) : SetK xs i K := ⟨x, h, h1⟩

/-- The element x with the value d at cell j. -/
def putK (sz : Nat) (ti : TyI) (x : D) (j : Nat) (d : D) (K : D → Prop) : Prop :=
  match j, Nat.beq ti.size sz with
  | 0, true => match Nat.beq d.cells.length sz, d.cells.all D.one with | true, true => K d | _, _ => False
  | j, _ => mapdK x.cells fun xs => mapdK d.cells fun ds => match Nat.beq ds.length ti.size, d.cells.all D.one with
    | true, true => setK xs j ds fun r => allDK r (fun r => match r.all D.one with | true => K (.agg r) | false => False) False
    | _, _ => False

def storeK (C : Ctx) (st : AS) (T : TypeId) (p v : AV) (K : KO) : Prop :=
  lookK C.tab T fun ti => match p with
    | .op k i j => ownK st k fun en => match en with
      | .box cs => match i with
        | 0 => cellsK v fun new => match Nat.beq new.length ti.size with
          | true => setK cs j new fun r => K .any [(k, some (.box r))] [k]
          | false => False
        | _ => False
      | .buf sz xs => toDK st v fun d us => match us with
        | [] => SetK xs i fun x => putK sz ti x j d fun y => K .any [(k, some (.buf sz (xs.set i y)))] [k]
        | _ => False
      | .arr sz xs => toDK st v fun d us => match us with
        | [] => SetK xs i fun x => putK sz ti x j d fun y => K .any [(k, some (.arr sz (xs.set i y)))] [k]
        | _ => False
    | _ => False

theorem run_storeVar {P : Program} {T : TypeId} {ti : TyI} (ht : TyOk P T ti) {w : World} {b o : Nat} {arr : Array Value} {U : TypeId} {fz : Nat × Nat} {v : Value}
    (hh : w.heap[b]? = some (.cells arr U fz)) (hsz : v.cells.size = ti.size) (hb : o + ti.size ≤ arr.size) (hn : ∀ j, j < ti.size → ¬ (fz.1 ≤ o + j ∧ o + j < fz.2)) (h1 : ∀ u, u ∈ v.cells → u.oneCell' = true) :
    (storeVar T ⟨b, o, none⟩ v).run P w = .ok () (w.setCells b o v.cells.toList) := by
  have := run_storeCells_cells (P := P) b o v.cells.toList 0 w (fun j hj => by
    rw [cell_of hh]
    have : o + j < arr.size := by simp at hj; omega
    simp [this]) (fun j hj => by
    have := hn j (by simp at hj; omega)
    exact nf_frozen hh (by simpa using this)) (fun u hu => h1 u (by simpa using hu))
  simp only [Nat.add_zero] at this
  simp only [storeVar, Sem.run_bind, run_size ht, Result.andThen_ok, hsz, ne_eq, not_true, if_false]
  exact this

/-- What a store of the cells new at place (i, j) of a row of cells of width sz makes of it. -/
theorem wrote_of {w : World} {α : Nat → Loc} {X : Nat → Prop} {p : Nat → Prop} {k : Nat} {e0 e : Ent} {arr : Array Value} {U : TypeId} {fz : Nat × Nat} {cap : Nat} (hB : OwnB w α X (α k) e0 arr U fz cap)
    {i j : Nat} {new : List Value} (hsz : e.sz = e0.sz) (hlen : e.len = e0.len) (hb : i * e0.sz + j + new.length ≤ cap * e0.sz) (hw : e.wide) (hv : ∀ x, x ∈ e.vars → x.ok p)
    (hkind : ∀ sz xs, e = .buf sz xs → ∃ xs0, e0 = .buf sz xs0)
    (hcell : ∀ a m c, e.cell a m = some c → m < e0.sz) (hcell0 : ∀ a m c, e.cell a m = some c → a < e0.len)
    (hnew : ∀ a m c, e.cell a m = some c → (i * e0.sz + j ≤ a * e0.sz + m ∧ a * e0.sz + m < i * e0.sz + j + new.length) → ∃ u, new[a * e0.sz + m - (i * e0.sz + j)]? = some u ∧ RdA w α X c u)
    (hold : ∀ a m c, e.cell a m = some c → ¬ (i * e0.sz + j ≤ a * e0.sz + m ∧ a * e0.sz + m < i * e0.sz + j + new.length) → e0.cell a m = some c) :
    ∃ arr', Wrote w (w.setCells (α k).blk ((α k).off + i * (α k).sz + j) new) α X p (α k) e (α k).hv arr' U fz cap := by
  obtain ⟨arr', h1, h2, h3, h4, h5, h6, h7, h8⟩ := heap_setCells (α k).blk new ((α k).off + i * (α k).sz + j) w arr U fz hB.heap
  have hz := hB.hsz
  refine ⟨arr', h1, h3, h4, h5, h6, h7, by rw [hsz]; exact hz, by rw [hlen]; exact hB.len, by rw [hsz, h2]; exact hB.bnd, by rw [hsz]; exact hB.nf, hw, fun a m c hc => ?_, hv, fun sz xs he => ?_, hB.hone⟩
  · rw [hsz, h8, hz]
    have hm := hcell a m c hc
    have ha := hcell0 a m c hc
    have hq : a * e0.sz + m < cap * e0.sz := by
      have h9 : (a + 1) * e0.sz ≤ cap * e0.sz := Nat.mul_le_mul_right _ (Nat.le_trans ha hB.len)
      rw [Nat.add_mul] at h9; omega
    have hbd := hB.bnd
    by_cases hin : i * e0.sz + j ≤ a * e0.sz + m ∧ a * e0.sz + m < i * e0.sz + j + new.length
    · rw [if_pos (by omega)]
      obtain ⟨u, h9, h10⟩ := hnew a m c hc hin
      refine ⟨u, ?_, h10⟩
      rw [← h9]; congr 1; omega
    · rw [if_neg (by omega)]
      exact hB.rd a m c (hold a m c hc hin)
  · obtain ⟨xs0, rfl⟩ := hkind sz xs he
    subst he
    have := hB.hv sz xs0 rfl
    simp only [Ent.len] at hlen
    rw [this, hlen]


theorem store_run {T : TypeId} {p v : Operand} (ho : o.op = .store T p v) {a : Act} {w w' : World} {b : Addr} (hp : a.eval p = .pointer (some b)) (h : (storeVar T b (a.eval v)).run C.P w = .ok () w')
    {next : Act → World → Prop} {Q : Exit → Act → World → Prop} (hn : next (a.put o.dst undef) w') : o.wp C.P a w next Q :=
  wp_skip' (by simp [execOp, ho, hp, Instr.storeAt, Instr.sureAddr, h]) hn

theorem allD_one {l : List D} (h : l.all D.one = true) : ∀ d, d ∈ l → d.one = true := List.all_eq_true.1 h

theorem optd_inj {a b : Option D} (h : a.map AV.d = b.map AV.d) : a = b := by
  cases a <;> cases b <;> simp at h
  · rfl
  · rw [h]

/-- The new element: what was put, or what was there. -/
theorem putK_out {sz : Nat} {ti : TyI} {x : D} {j : Nat} {d : D} {K : D → Prop} (h : putK sz ti x j d K) :
    ∃ y, K y ∧ (x.wd sz → y.wd sz ∧ j + ti.size ≤ sz ∧ d.cells.length = ti.size ∧ (∀ c, c ∈ d.cells → c.one = true) ∧ ∀ m, y.cells[m]? = if j ≤ m ∧ m < j + ti.size then d.cells[m - j]? else x.cells[m]?) := by
  unfold putK at h
  split at h
  · rename_i hb
    have hb := Nat.eq_of_beq_eq_true hb
    split at h
    · rename_i hl hall
      have hl := Nat.eq_of_beq_eq_true hl
      refine ⟨d, h, fun hx => ⟨⟨hl, allD_one hall⟩, by omega, by omega, allD_one hall, fun m => ?_⟩⟩
      by_cases hm : m < ti.size
      · rw [if_pos (by omega)]; rfl
      · rw [if_neg (by omega), List.getElem?_eq_none (by omega), List.getElem?_eq_none (by rw [hx.1]; omega)]
    · cases h
  · replace h := mapdK_out h
    replace h := mapdK_out h
    split at h
    · rename_i hl hall
      have hl := Nat.eq_of_beq_eq_true hl
      obtain ⟨r, h, h1, h2, h3⟩ := setK_out h
      rcases allDK_out h with ⟨r', rfl, h9⟩ | h9
      · split at h9
        · rename_i hr
          simp only [List.length_map] at hl h1 h2
          refine ⟨.agg r', h9, fun hx => ⟨⟨h1.trans hx.1, allD_one hr⟩, by rw [← hx.1]; omega, hl, allD_one hall, fun m => ?_⟩⟩
          have h4 := h3 m
          show r'[m]? = _
          rw [List.length_map, hl] at h4
          simp only [List.getElem?_map] at h4
          split at h4
          · rename_i hin
            rw [if_pos hin]; exact optd_inj h4
          · rename_i hin
            rw [if_neg hin]; exact optd_inj h4
        · cases h9
      · cases h9
    · cases h

theorem d_cells {w : World} {X : Nat → Prop} {d : D} {v : Value} (h : Rd w X d v) (hone : ∀ c, c ∈ d.cells → c.one = true) :
    v.cells.size = d.cells.length ∧ (∀ (j : Nat) (c : D), d.cells[j]? = some c → ∃ u, v.cells[j]? = some u ∧ Rd w X c u) ∧ ∀ u, u ∈ v.cells → u.oneCell' = true := by
  cases h with
  | agg cs vs hl hc =>
    refine ⟨hl.symm, fun j c hj => ?_, fun u hu => ?_⟩
    · have hlt : j < vs.size := by rw [← hl]; exact (List.getElem?_eq_some_iff.1 hj).1
      exact ⟨vs[j], by simp [Value.cells, hlt], hc j c _ hj (by simp [hlt])⟩
    · obtain ⟨j, hj, rfl⟩ := Array.mem_iff_getElem.1 hu
      have hj' : j < cs.length := by rw [hl]; exact hj
      exact (hc j cs[j] _ (by simp [hj']) (by simp [Value.cells])).one (hone _ (by simp [D.cells]))
  | x v =>
    have := hone (.x v) (by simp [D.cells])
    rw [cells_one (this : v.oneCell' = true)]
    refine ⟨rfl, fun j c hj => ?_, fun u hu => by simp at hu; subst hu; exact this⟩
    cases j with
    | zero => simp [D.cells] at hj; subst hj; exact ⟨v, rfl, .x v⟩
    | succ j => simp [D.cells] at hj
  | b t =>
    refine ⟨rfl, fun j c hj => ?_, fun u hu => by simp [Value.cells] at hu; subst hu; rfl⟩
    cases j with
    | zero => simp [D.cells] at hj; subst hj; exact ⟨_, rfl, .b t⟩
    | succ j => simp [D.cells] at hj
  | i k m =>
    refine ⟨rfl, fun j c hj => ?_, fun u hu => by simp [Value.cells] at hu; subst hu; rfl⟩
    cases j with
    | zero => simp [D.cells] at hj; subst hj; exact ⟨_, rfl, .i k m⟩
    | succ j => simp [D.cells] at hj
  | s l =>
    refine ⟨rfl, fun j c hj => ?_, fun u hu => by simp [Value.cells] at hu; subst hu; rfl⟩
    cases j with
    | zero => simp [D.cells] at hj; subst hj; exact ⟨_, rfl, .s l⟩
    | succ j => simp [D.cells] at hj
  | slnil sz =>
    refine ⟨rfl, fun j c hj => ?_, fun u hu => by simp [Value.cells] at hu; subst hu; rfl⟩
    cases j with
    | zero => simp [D.cells] at hj; subst hj; exact ⟨_, rfl, .slnil sz⟩
    | succ j => simp [D.cells] at hj
  | sle sz a cap =>
    refine ⟨rfl, fun j c hj => ?_, fun u hu => by simp [Value.cells] at hu; subst hu; rfl⟩
    cases j with
    | zero => simp [D.cells] at hj; subst hj; exact ⟨_, rfl, .sle sz a cap⟩
    | succ j => simp [D.cells] at hj
  | sl sz xs blk off m cap arr T fz f h1 h2 h3 h4 h5 h6 h7 =>
    refine ⟨rfl, fun j c hj => ?_, fun u hu => by simp [Value.cells] at hu; subst hu; rfl⟩
    cases j with
    | zero => simp [D.cells] at hj; subst hj; exact ⟨_, rfl, .sl sz xs blk off m cap arr T fz f h1 h2 h3 h4 h5 h6 h7⟩
    | succ j => simp [D.cells] at hj


theorem set_get {xs : List D} {i a : Nat} {x y : D} (h : (xs.set i y)[a]? = some x) : (a = i ∧ x = y) ∨ (a ≠ i ∧ xs[a]? = some x) := by
  by_cases hia : i = a
  · subst hia
    have hl := (List.getElem?_eq_some_iff.1 h).1
    have h2 : i < xs.length := by simpa using hl
    rw [List.getElem?_set_self h2] at h
    exact .inl ⟨rfl, by cases h; rfl⟩
  · rw [List.getElem?_set_ne hia] at h
    exact .inr ⟨fun e => hia e.symm, h⟩

/-- A store into an element of a row. -/
theorem store_elem {T : TypeId} {p v : Operand} (ho : o.op = .store T p v) {ti : TyI} (hti : look C.tab T = some ti) {k i j sz : Nat} {xs : List D} {x y d : D} {va : AV} {us : List Nat} (e0 e : Ent)
    (he0 : e0 = .buf sz xs ∧ e = .buf sz (xs.set i y) ∨ e0 = .arr sz xs ∧ e = .arr sz (xs.set i y)) (hus : us = []) (h1 : Ev st.ss.env p (.op k i j)) (h2 : Ev st.ss.env v va) (hen : st.ss.own k = some e0)
    (htd : ToD st va d us) (hx : xs[i]? = some x) (hy : x.wd sz → y.wd sz ∧ j + ti.size ≤ sz ∧ d.cells.length = ti.size ∧ (∀ c, c ∈ d.cells → c.one = true) ∧ ∀ m, y.cells[m]? = if j ≤ m ∧ m < j + ti.size then d.cells[m - j]? else x.cells[m]?) :
    VOp C n o nm st [k] .any [(k, some e)] := by
  subst hus
  have hm1 : p ∈ o.op.operands := by rw [ho]; simp [Op.operands]
  have hm2 : v ∈ o.op.operands := by rw [ho]; simp [Op.operands]
  have hcell0 : e0.cell = fun i j => (xs[i]?).bind fun x => (x.cells[j]?).map .d := by rcases he0 with ⟨rfl, _⟩ | ⟨rfl, _⟩ <;> rfl
  have hcell : e.cell = fun a j => ((xs.set i y)[a]?).bind fun x => (x.cells[j]?).map .d := by rcases he0 with ⟨_, rfl⟩ | ⟨_, rfl⟩ <;> rfl
  have hsz0 : e0.sz = sz := by rcases he0 with ⟨rfl, _⟩ | ⟨rfl, _⟩ <;> rfl
  have hsz : e.sz = sz := by rcases he0 with ⟨_, rfl⟩ | ⟨_, rfl⟩ <;> rfl
  have hlen0 : e0.len = xs.length := by rcases he0 with ⟨rfl, _⟩ | ⟨rfl, _⟩ <;> rfl
  have hlen : e.len = xs.length := by rcases he0 with ⟨_, rfl⟩ | ⟨_, rfl⟩ <;> simp [Ent.len]
  have hwide0 : e0.wide → ∀ (j : Nat) (x : D), xs[j]? = some x → x.wd sz := by rcases he0 with ⟨rfl, _⟩ | ⟨rfl, _⟩ <;> exact fun h => h
  have hwide : (∀ (j : Nat) (x : D), (xs.set i y)[j]? = some x → x.wd sz) → e.wide := by rcases he0 with ⟨_, rfl⟩ | ⟨_, rfl⟩ <;> exact fun h => h
  have hnilE : ∀ {w : World} {α : Nat → Loc} {X : Nat → Prop}, Own w α X k e0 → (α k).nil = false ∧ ∃ arr U fz cap, OwnB w α X (α k) e0 arr U fz cap := by
    intro w α X h
    rcases h with ⟨_, ⟨sz', he⟩, _⟩ | h
    · rcases he0 with ⟨rfl, _⟩ | ⟨rfl, _⟩
      · cases he; simp at hx
      · cases he
    · exact h
  refine VOp.write (e0 := e0) (e := e) (k := k) true (by simp) hen (.inl rfl) fun X0 F w0 q α S a w hs he ho' => ?_
  have hSk := ho' k (by simp) _ hen
  obtain ⟨hnil, arr, U, fz, cap, hB⟩ := hnilE (hs.own k _ hSk)
  refine ⟨hnil, ?_⟩
  have hrp := (h1.to hm1 he).read hs
  generalize hp : a.eval p = pv at hrp
  cases hrp
  have hrv := htd.rd w α _ (XX α S.own X0) (a.eval v) ((h2.to hm2 he).read hs) (fun k hk => by cases hk) (fun _ h => h) (fun k hk => by cases hk)
  obtain ⟨hy1, hy2, hy3, hy4, hy5⟩ := hy (hwide0 hB.wid i x hx)
  obtain ⟨hv1, hv2, hv3⟩ := d_cells hrv hy4
  have hi : i < xs.length := (List.getElem?_eq_some_iff.1 hx).1
  have hzz := hB.hsz
  have hle : i * sz + sz ≤ cap * sz := by
    have := hB.len; rw [hlen0] at this
    have h9 : (i + 1) * sz ≤ cap * sz := Nat.mul_le_mul_right _ (by omega)
    rw [Nat.add_mul] at h9; omega
  have hbd := hB.bnd
  rw [hsz0] at hbd hzz
  have hsplit : ∀ (a b m : Nat), m < sz → j < sz ∨ True → (a = i → b = m → True) := fun _ _ _ _ _ _ _ => trivial
  have hrow : ∀ (a m : Nat), m < sz → (i * sz + j ≤ a * sz + m ∧ a * sz + m < i * sz + j + ti.size) → a = i ∧ j ≤ m ∧ m < j + ti.size ∧ a * sz + m - (i * sz + j) = m - j := by
    intro a m hm hin
    have : a = i := by
      rcases Nat.lt_trichotomy a i with h | h | h
      · exfalso
        have h9 : (a + 1) * sz ≤ i * sz := Nat.mul_le_mul_right _ h
        rw [Nat.add_mul] at h9; omega
      · exact h
      · exfalso
        have h9 : (i + 1) * sz ≤ a * sz := Nat.mul_le_mul_right _ h
        rw [Nat.add_mul] at h9; omega
    subst this
    omega
  have hvsz : (a.eval v).cells.toList.length = ti.size := by simp [hv1, hy3]
  obtain ⟨arr', hW⟩ := wrote_of (p := q) (i := i) (j := j) (new := (a.eval v).cells.toList) (e := e) hB (by rw [hsz, hsz0]) (by rw [hlen, hlen0]) (by rw [hsz0, hvsz]; omega)
    (hwide fun a' x' hx' => by
      rcases set_get hx' with ⟨_, rfl⟩ | ⟨_, hx'⟩
      · exact hy1
      · exact hwide0 hB.wid a' x' hx')
    (by rcases he0 with ⟨_, rfl⟩ | ⟨_, rfl⟩ <;> exact fun x hx => by cases hx)
    (fun sz' xs' h => by rcases he0 with ⟨rfl, rfl⟩ | ⟨_, rfl⟩ <;> cases h; exact ⟨_, rfl⟩)
    (fun a' m c hc => by
      rw [hcell] at hc
      simp only [Option.bind_eq_some_iff, Option.map_eq_some_iff] at hc
      obtain ⟨x', hx', c', hc', _⟩ := hc
      have hw' : x'.wd sz := by
        rcases set_get hx' with ⟨_, rfl⟩ | ⟨_, hx'⟩
        · exact hy1
        · exact hwide0 hB.wid a' x' hx'
      rw [hsz0, ← hw'.1]; exact (List.getElem?_eq_some_iff.1 hc').1)
    (fun a' m c hc => by
      rw [hcell] at hc
      simp only [Option.bind_eq_some_iff] at hc
      obtain ⟨x', hx', _⟩ := hc
      have := (List.getElem?_eq_some_iff.1 hx').1
      rw [hlen0]; simpa using this)
    (fun a' m c hc hin => by
      rw [hsz0, hvsz] at hin
      rw [hcell] at hc
      simp only [Option.bind_eq_some_iff, Option.map_eq_some_iff] at hc
      obtain ⟨x', hx', c', hc', rfl⟩ := hc
      have hmsz : m < sz := by
        have hw' : x'.wd sz := by
          rcases set_get hx' with ⟨_, rfl⟩ | ⟨_, hx'⟩
          · exact hy1
          · exact hwide0 hB.wid a' x' hx'
        rw [← hw'.1]; exact (List.getElem?_eq_some_iff.1 hc').1
      obtain ⟨rfl, h4, h5, h6⟩ := hrow a' m hmsz hin
      rcases set_get hx' with ⟨_, rfl⟩ | ⟨hne, _⟩
      case inr => exact absurd rfl hne
      rw [hy5 m, if_pos ⟨h4, h5⟩] at hc'
      obtain ⟨u, h7, h8⟩ := hv2 _ _ hc'
      refine ⟨u, ?_, .d _ _ h8⟩
      rw [hsz0, h6, Array.getElem?_toList]; exact h7)
    (fun a' m c hc hin => by
      rw [hsz0, hvsz] at hin
      rw [hcell] at hc
      rw [hcell0]
      simp only [Option.bind_eq_some_iff, Option.map_eq_some_iff] at hc ⊢
      obtain ⟨x', hx', c', hc', rfl⟩ := hc
      rcases set_get hx' with ⟨rfl, rfl⟩ | ⟨_, hx'⟩
      · rw [hy5 m, if_neg (by omega)] at hc'
        exact ⟨x, hx, c', hc', rfl⟩
      · exact ⟨x', hx', c', hc', rfl⟩)
  refine ⟨_, _, arr', U, fz, cap, hW, fun _ => rfl, fun next Q hn => ?_⟩
  refine store_run ho hp (run_storeVar (C.ty hti) hB.heap (by rw [hv1, hy3]) (by rw [hzz]; omega) (fun m hm => hB.nf _ (by omega) (by rw [hsz0, hzz]; omega)) hv3) (hn _ (.inl rfl))

theorem store_out {T : TypeId} {p v : Operand} (ho : o.op = .store T p v) (h : evK st p fun a => evTK C st T v fun b => storeK C st T a b K) : ∃ out upd rd, K out upd rd ∧ VOp C n o nm st rd out upd := by
  replace h := evK_out h; obtain ⟨pa, h1, h⟩ := h
  replace h := evTK_out h; obtain ⟨va, h2, h⟩ := h
  have hm1 : p ∈ o.op.operands := by rw [ho]; simp [Op.operands]
  have hm2 : v ∈ o.op.operands := by rw [ho]; simp [Op.operands]
  unfold storeK at h
  replace h := lookK_out h; obtain ⟨ti, hti, h⟩ := h
  split at h
  · rename_i k i j
    replace h := ownK_out h; obtain ⟨en, hen, h⟩ := h
    split at h
    · rename_i cs
      split at h
      · replace h := cellsK_out h; obtain ⟨new, h, hnew⟩ := h
        split at h
        · rename_i hlen
          have hlen := Nat.eq_of_beq_eq_true hlen
          replace h := setK_out h; obtain ⟨r, h, hr1, hr2, hr3⟩ := h
          refine ⟨_, _, _, h, VOp.write (e0 := .box cs) (e := .box r) (k := k) true (by simp) hen (.inl rfl) fun X0 F w0 q α S a w hs he ho' => ?_⟩
          have hSk := ho' k (by simp) _ hen
          rcases hs.own k _ hSk with ⟨_, ⟨sz', he'⟩, _⟩ | ⟨hnil, arr, U, fz, cap, hB⟩
          · cases he'
          refine ⟨hnil, ?_⟩
          have hrp := (h1.to hm1 he).read hs
          generalize hp : a.eval p = pv at hrp
          cases hrp
          have hv := h2.to hm2 he
          obtain ⟨hv1, hv2⟩ := hnew.rd w α _ _ (hv.read hs)
          have hzz := hB.hsz
          have hbd := hB.bnd
          have hcl := hB.len
          simp only [Ent.sz, Ent.len] at hzz hbd hcl
          have hle : cs.length ≤ cap * cs.length := Nat.le_mul_of_pos_left _ hcl
          have hvone : ∀ u, u ∈ (a.eval v).cells → u.oneCell' = true := by
            intro u hu
            obtain ⟨m, hm, rfl⟩ := Array.mem_iff_getElem.1 hu
            obtain ⟨u', h5, _, h7⟩ := hv2 m (new[m]'(by rw [← hv1]; exact hm)) (by simp)
            simp [hm] at h5; rw [h5]; exact h7
          obtain ⟨arr', hW⟩ := wrote_of (p := q) (i := 0) (j := j) (new := (a.eval v).cells.toList) (e := .box r) hB hr1 rfl (by simp only [Ent.sz, Array.length_toList, hv1]; omega)
            (fun c hc => by
              obtain ⟨m, hm⟩ := List.mem_iff_getElem?.1 (show c ∈ r from hc)
              rw [hr3 m] at hm
              split at hm
              · exact hnew.one c (List.mem_of_getElem? hm)
              · exact hB.wid c (List.mem_of_getElem? hm))
            (fun c hc => by
              obtain ⟨m, hm⟩ := List.mem_iff_getElem?.1 (show c ∈ r from hc)
              rw [hr3 m] at hm
              split at hm
              · exact hnew.ok q (hv.ok hs) c (List.mem_of_getElem? hm)
              · exact (hs.oko k _ hSk).2 c (List.mem_of_getElem? hm))
            (fun sz xs h => by cases h)
            (fun a' m c hc => by
              simp only [Ent.cell] at hc
              split at hc
              · have := (List.getElem?_eq_some_iff.1 hc).1
                simp only [Ent.sz]; omega
              · cases hc)
            (fun a' m c hc => by
              simp only [Ent.cell] at hc
              split at hc
              · simp only [Ent.len]; omega
              · cases hc)
            (fun a' m c hc hin => by
              simp only [Ent.cell] at hc
              split at hc
              · rename_i ha
                subst ha
                simp only [Ent.sz, Nat.zero_mul, Nat.zero_add, Array.length_toList, hv1] at hin ⊢
                rw [hr3 m, if_pos hin] at hc
                obtain ⟨u, h5, h6, _⟩ := hv2 _ _ hc
                exact ⟨u, by rw [Array.getElem?_toList]; exact h5, h6⟩
              · cases hc)
            (fun a' m c hc hin => by
              simp only [Ent.cell] at hc ⊢
              split at hc
              · rename_i ha
                subst ha
                simp only [Ent.sz, Nat.zero_mul, Nat.zero_add, Array.length_toList, hv1] at hin
                rw [hr3 m, if_neg hin] at hc
                simpa using hc
              · cases hc)
          refine ⟨_, _, arr', U, fz, cap, hW, fun _ => rfl, fun next Q hn => ?_⟩
          refine store_run ho hp (run_storeVar (C.ty hti) hB.heap (by rw [hv1, hlen]) (by omega) (fun m hm => hB.nf _ (by omega) (by simp only [Ent.sz]; omega)) hvone) (hn _ (.inl rfl))
        · cases h
      · cases h
    · rename_i sz xs
      replace h := toDK_out h; obtain ⟨d, us, h, htd⟩ := h
      split at h
      · obtain ⟨x, hx, h⟩ := h
        replace h := putK_out h; obtain ⟨y, h, hy⟩ := h
        exact ⟨_, _, _, h, store_elem ho hti (.buf sz xs) (.buf sz (xs.set i y)) (.inl ⟨rfl, rfl⟩) rfl h1 h2 hen htd hx hy⟩
      · cases h
    · rename_i sz xs
      replace h := toDK_out h; obtain ⟨d, us, h, htd⟩ := h
      split at h
      · obtain ⟨x, hx, h⟩ := h
        replace h := putK_out h; obtain ⟨y, h, hy⟩ := h
        exact ⟨_, _, _, h, store_elem ho hti (.arr sz xs) (.arr sz (xs.set i y)) (.inr ⟨rfl, rfl⟩) rfl h1 h2 hen htd hx hy⟩
      · cases h
  · cases h

end
end Go.Eng
