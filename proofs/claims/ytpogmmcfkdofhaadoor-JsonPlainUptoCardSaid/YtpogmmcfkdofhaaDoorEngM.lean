/-
  Strings and bytes, append, stores: their reckoning, and that it speaks true.
-/
import Derived.Test.YtpogmmcfkdofhaaDoorEngL
namespace Go.Eng
open Go.Lib (bytesCells bytesWorld bytesWorld_at_old bytesWorld_at_new bytesWorld_size run_convert_string_bytes)

def encB (l : List UInt8) : List D := l.map fun c => .i .u8 (c.toNat : Int)

/-- A list of data is the bytes of a text. -/
structure BytesK (ds : List D) (K : List UInt8 → Prop) : Prop where
  out : ∃ l, ds = encB l ∧ K l
theorem bytes_is {ds : List D} {K : List UInt8 → Prop} (l : List UInt8) (h : ds = encB l) (h1 : K l) : BytesK ds K := ⟨l, h, h1⟩
theorem bytes_enc {l : List UInt8} {K : List UInt8 → Prop} (h1 : K l) : BytesK (encB l) K := ⟨l, rfl, h1⟩

def u8K (C : Ctx) (T : TypeId) (K : Prop) : Prop :=
  lookK C.tab T fun ti => match ti.kd with | .slice e => lookK C.tab e fun te => (match te.kd, te.size with | .int .u8, 1 => K | _, _ => False) | _ => False

theorem u8K_out {C : Ctx} {T : TypeId} {K : Prop} (h : u8K C T K) : K ∧ ∃ e te, look C.tab e = some te ∧ te.size = 1 ∧ C.P.underlying T = some (.slice e) ∧ C.P.underlying e = some (.int .u8) := by
  unfold u8K at h
  replace h := lookK_out h; obtain ⟨ti, hti, h⟩ := h
  split at h
  · rename_i e hk
    replace h := lookK_out h; obtain ⟨te, hte, h⟩ := h
    split at h
    · rename_i hk2 hsz
      exact ⟨h, e, te, hte, hsz, und_slice (C.ty hti) hk, und_int (C.ty hte) hk2⟩
    · cases h
  · cases h

section
variable {C : Ctx} {n : Nat} {o : Oper} {nm : Nat} {st : AS} {K : KO}

def s2bK (C : Ctx) (nm : Nat) (S T : TypeId) (a : AV) (K : KO) : Prop :=
  match a with
  | .d (.s l) => lookK C.tab S fun _ => u8K C T (K (.os (16 * nm)) [(16 * nm, some (.buf 1 (encB l)))] [])
  | _ => False

theorem encB_get {l : List UInt8} {j : Nat} {d : D} (h : (encB l)[j]? = some d) : ∃ c, l[j]? = some c ∧ d = .i .u8 (c.toNat : Int) := by
  simp only [encB, List.getElem?_map, Option.map_eq_some_iff] at h
  obtain ⟨c, h1, h2⟩ := h
  exact ⟨c, h1, h2.symm⟩

theorem bytesWorld_push (w : World) (e : TypeId) (s : ByteArray) : (bytesWorld w e s).heap = w.heap.push (.cells (bytesCells w e s) e ((bytesCells w e s).size, (bytesCells w e s).size + 1)) := by
  apply Array.ext_getElem?
  intro i
  rcases Nat.lt_trichotomy i w.heap.size with h | h | h
  · rw [bytesWorld_at_old w e s i h, Array.getElem?_push_lt h]; simp [h]
  · subst h; rw [bytesWorld_at_new]; simp
  · rw [Array.getElem?_eq_none (by rw [bytesWorld_size]; omega), Array.getElem?_eq_none (by simp; omega)]

theorem s2b_out {S T : TypeId} {x : Operand} (ho : o.op = .convert S T x) (h : evK st x fun a => s2bK C nm S T a K) : ∃ out upd rd, K out upd rd ∧ VOp C n o nm st rd out upd := by
  replace h := evK_out h; obtain ⟨va, h1, h⟩ := h
  have hmem : x ∈ o.op.operands := by rw [ho]; simp [Op.operands]
  unfold s2bK at h
  split at h
  · rename_i l
    replace h := lookK_out h; obtain ⟨tS, htS, h⟩ := h
    replace h := u8K_out h; obtain ⟨h, e, te, hte, hsz, hu, hue⟩ := h
    obtain ⟨_, uS, huS, _⟩ := C.ty htS
    refine ⟨_, _, _, h, VOp.make (kills := []) (fun _ hk => by cases hk) (.inl rfl) fun X0 F w0 p α S' a w hs he _ => ?_⟩
    have hx := ((h1.to hmem he).read hs).dinv.sinv
    have hrun := run_convert_string_bytes (P := C.P) w S T e ⟨l.toArray⟩ huS hu hue
    have hcap : l.length ≤ grownCap w (ByteArray.mk l.toArray).size 0 e := by
      rw [size_mk]; simp [grownCap, Question.cut]
    have hcsz : (bytesCells w e ⟨l.toArray⟩).size = grownCap w (ByteArray.mk l.toArray).size 0 e := by
      simp only [bytesCells, Array.size_append, Array.size_map, Array.size_replicate, List.size_toArray]
      rw [size_mk] at hcap ⊢; omega
    refine ⟨bytesWorld w e ⟨l.toArray⟩, .slice (some ⟨w.heap.size, 0, none⟩) (ByteArray.mk l.toArray).size (grownCap w (ByteArray.mk l.toArray).size 0 e), _, e, _, grownCap w (ByteArray.mk l.toArray).size 0 e,
      ⟨bytesWorld_push w e _, rfl, rfl, rfl, by simpa [Ent.len, encB] using hcap, by simp only [Ent.sz]; omega, (fun o ho => by simp only [Ent.sz] at ho; omega), ?_, ?_, (fun x hx => by cases hx), ?_, rfl⟩, ?_⟩
    · intro j d hd
      obtain ⟨c, _, rfl⟩ := encB_get hd
      exact ⟨rfl, fun c hc => by simp [D.cells] at hc; subst hc; rfl⟩
    · intro j m c hc
      simp only [Ent.cell, Option.bind_eq_some_iff, Option.map_eq_some_iff] at hc
      obtain ⟨d, hd, y, hy, rfl⟩ := hc
      obtain ⟨c, hc, rfl⟩ := encB_get hd
      cases m with
      | zero =>
        simp [D.cells] at hy; subst hy
        refine ⟨.int .u8 (c.toNat : Int), ?_, .d _ _ (.i _ _)⟩
        have hlt : j < l.length := (List.getElem?_eq_some_iff.1 hc).1
        simp only [Ent.sz, bytesCells, Nat.mul_one, Nat.add_zero]
        rw [Array.getElem?_append_left (by simpa using hlt)]
        simp [hc]
      | succ m => simp [D.cells] at hy
    · intro sz xs h; cases h; simp [size_mk, encB]
    · simp only [execOp, ho, Sem.run_bind, hx, hrun, Result.andThen_ok]; rfl
  · cases h

/-- What a row of bytes reads as, in memory. -/
theorem bytes_cells {w : World} {X : Nat → Prop} {l : List UInt8} {v : Value} (h : Rd w X (.sl 1 (encB l)) v) :
    (l = [] ∧ ∃ a c, v = .slice a 0 c) ∨ ∃ b off cap, v = .slice (some ⟨b, off, none⟩) l.length cap ∧ ∀ i, i < l.length → w.cell? ⟨b, off + i, none⟩ = some (.int .u8 ((l.map fun c => (c.toNat : Int)).getD i 0)) := by
  generalize hx : encB l = xs at h
  cases h with
  | slnil =>
    left
    refine ⟨?_, none, 0, rfl⟩
    cases l with
    | nil => rfl
    | cons => simp [encB] at hx
  | sle _ a cap =>
    left
    refine ⟨?_, some a, cap, rfl⟩
    cases l with
    | nil => rfl
    | cons => simp [encB] at hx
  | sl _ _ blk off m cap arr T fz f hh hX hl hc hw h1 h2 =>
    right
    subst hx
    refine ⟨blk, off, cap, by rw [← hl]; simp [encB], fun i hi => ?_⟩
    have hg : (encB l)[i]? = some (.i .u8 (l[i].toNat : Int)) := by simp [encB, hi]
    have h3 := h1 i 0 _ (.i .u8 (l[i].toNat : Int)) hg rfl
    have h4 := (h2 i 0 _ (.i .u8 (l[i].toNat : Int)) hg rfl).iinv
    rw [cell_of hh]
    simp only [Nat.mul_one, Nat.add_zero] at h3
    rw [h3, h4]
    simp [List.getD_eq_getElem?_getD, hi]

def b2sK (C : Ctx) (st : AS) (S T : TypeId) (a : AV) (K : KO) : Prop :=
  lookK C.tab T fun ti => match ti.kd with
    | .str => u8K C S (match a with
      | .d (.sl 1 ds) => BytesK ds fun l => K (.d (.s l)) [] []
      | .os k => ownK st k fun e => match e with | .buf 1 ds => BytesK ds fun l => K (.d (.s l)) [] [k] | _ => False
      | .nl _ => K (.d (.s [])) [] []
      | _ => False)
    | _ => False

theorem strOf_bytes (l : List UInt8) : strOfNums (l.map fun c => (c.toNat : Int)) = ⟨l.toArray⟩ := by
  apply ByteArray.ext
  apply Array.ext'
  rw [strOfNums_data]
  simp only [List.map_map]
  conv => rhs; rw [← List.map_id l]
  apply List.map_congr_left
  intro c _
  simp [UInt8.ofNat_toNat]

theorem b2s_out {S T : TypeId} {x : Operand} (ho : o.op = .convert S T x) (h : evK st x fun a => b2sK C st S T a K) : ∃ out upd rd, K out upd rd ∧ VOp C n o nm st rd out upd := by
  replace h := evK_out h; obtain ⟨va, h1, h⟩ := h
  have hmem : x ∈ o.op.operands := by rw [ho]; simp [Op.operands]
  unfold b2sK at h
  replace h := lookK_out h; obtain ⟨ti, hti, h⟩ := h
  split at h
  · rename_i hk
    have huT := und_str (C.ty hti) hk
    replace h := u8K_out h; obtain ⟨h, e, te, hte, hsz, hu, hue⟩ := h
    have run : ∀ (w : World) (X : Nat → Prop) (l : List UInt8) (v : Value), Rd w X (.sl 1 (encB l)) v → (convert S T v).run C.P w = .ok (.string ⟨l.toArray⟩) w := by
      intro w X l v hr
      rcases bytes_cells hr with ⟨rfl, a, c, rfl⟩ | ⟨b, off, cap, rfl, hc⟩
      · cases a with
        | none => rw [run_convert_bytes_nil (P := C.P) w S e hu hue 0 c T huT]; rfl
        | some a =>
          have := run_convert_bytes_string (P := C.P) w S T e (some a) 0 c hu hue huT
          rw [this]
          exact rfl
      · rw [run_convert_bytes_arg (P := C.P) w S e hu hue b off l.length cap (l.map fun c => (c.toNat : Int)) (by simp) hc T huT, strOf_bytes]
    split at h
    · rename_i ds
      obtain ⟨l, rfl, h⟩ := h
      refine ⟨_, _, _, h, VOp.pure fun X0 F w0 p α S' a w hs he _ => ?_⟩
      exact ⟨_, by simp only [execOp, ho, Sem.run_bind, run w _ l _ ((h1.to hmem he).read hs).dinv, Result.andThen_ok]; rfl, .d _ _ (.s _), .d _⟩
    · rename_i k
      replace h := ownK_out h; obtain ⟨en, hen, h⟩ := h
      split at h
      · obtain ⟨l, rfl, h⟩ := h
        refine ⟨_, _, _, h, VOp.pure fun X0 F w0 p α S' a w hs he ho' => ?_⟩
        have hr := (h1.to hmem he).read hs
        generalize hv : a.eval x = v at hr
        cases hr
        have := own_read (X' := fun _ => False) (hs.own k _ (ho' k (by simp) _ hen)) (fun _ h => h.elim) (fun _ h => h)
        exact ⟨_, by simp only [execOp, ho, Sem.run_bind, hv, run w _ l _ this, Result.andThen_ok]; rfl, .d _ _ (.s _), .d _⟩
      · cases h
    · refine ⟨_, _, _, h, VOp.pure fun X0 F w0 p α S' a w hs he ho' => ?_⟩
      have hr := (h1.to hmem he).read hs
      generalize hv : a.eval x = v at hr
      cases hr
      exact ⟨_, by simp only [execOp, ho, Sem.run_bind, hv, run w (fun _ => False) [] _ (.slnil 1), Result.andThen_ok]; rfl, .d _ _ (.s _), .d _⟩
    · cases h
  · cases h

end
end Go.Eng
