/-
  Small helpers of the proofs by reckoning.
-/
import Derived.Test.YtpogmmcfkdofhaaDoorEngS1
namespace Go.Eng

theorem wrap_u8 {e : Int} (h1 : 0 ≤ e) (h2 : e ≤ 255) : IntKind.u8.wrap e = e := by
  simp only [IntKind.wrap, IntKind.bits, IntKind.signed]
  simp
  omega
theorem ar8 {e : Int} {K : Int → Prop} (h : 0 ≤ e ∧ e ≤ 255) (h1 : K e) : ArK .u8 e K := ar_is e (wrap_u8 h.1 h.2) h1
theorem wrap_u64 {e : Int} (h1 : 0 ≤ e) (h2 : e ≤ 18446744073709551615) : IntKind.u64.wrap e = e := by
  simp only [IntKind.wrap, IntKind.bits, IntKind.signed]
  simp
  omega
theorem aru {e : Int} {K : Int → Prop} (h : 0 ≤ e ∧ e ≤ 18446744073709551615) (h1 : K e) : ArK .u64 e K := ar_is e (wrap_u64 h.1 h.2) h1
theorem wrap_u32 {e : Int} (h1 : 0 ≤ e) (h2 : e ≤ 4294967295) : IntKind.u32.wrap e = e := by
  simp only [IntKind.wrap, IntKind.bits, IntKind.signed]
  simp
  omega
theorem aru32 {e : Int} {K : Int → Prop} (h : 0 ≤ e ∧ e ≤ 4294967295) (h1 : K e) : ArK .u32 e K := ar_is e (wrap_u32 h.1 h.2) h1

def ints (l : List Int) : D := .sl 1 (l.map (.i .i64))
theorem getInts {l : List Int} {i : Nat} (h : i < l.length) : (l.map (D.i .i64))[i]? = some (.i .i64 (l.getD i 0)) := by
  simp [h]
def I64 (n : Int) : Prop := -9223372036854775808 ≤ n ∧ n ≤ 9223372036854775807
theorem drop_at {β : Type} {l : List β} {i : Nat} (d : β) (h : i < l.length) : l.drop i = l.getD i d :: l.drop (i + 1) := by
  rw [List.drop_eq_getElem_cons h]; simp [h]
theorem get_d {β : Type} {l : List β} {i : Nat} (d : β) (h : i < l.length) : l[i]? = some (l.getD i d) := by simp [h]

end Go.Eng
