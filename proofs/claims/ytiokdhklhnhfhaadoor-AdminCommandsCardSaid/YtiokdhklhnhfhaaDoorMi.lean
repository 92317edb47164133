import Derived.Test.YtiokdhklhnhfhaaDoorMg
import Derived.Laws.Externs
namespace Go.Proofs.YtiokdhklhnhfhaaDoor
variable {G : List Go.Eng.Gl}
open Go.Eng
attribute [local irreducible] Hold
set_option maxRecDepth 100000

structure Rec where
  ser : Int
  exc : Int
  rea : Int
  st : Bool
  bo : Bool
  fl : List (List UInt8)
def Rec.cells (x : Rec) : List D := [.i .i64 x.ser, .i .i64 x.exc, .i .i64 x.rea, .b x.st, .b x.bo, strs x.fl]
def recD (x : Rec) : D := .agg [.i .i64 x.ser, .i .i64 x.exc, .i .i64 x.rea, .b x.st, .b x.bo, strs x.fl]
def difD (s b : Bool) (f : List (List UInt8)) : D := .agg [.b s, .b b, strs f]
def recs (l : List Rec) : D := .sl 6 (l.map recD)
def repD (cap ser : Int) (l : List Rec) : D := .agg [.i .i64 cap, .i .i64 ser, recs l]

/-- How many the list is cut by: as New does. -/
def capOf (n : Int) : Int := min (max n 0) 10000
theorem new65 (n : Int) : Does (CG G) 57 [.i .i64 n] [repD (capOf n) 0 []] := by
  refine Does.mk (n := 7) Tryd.func57 rfl rfl rfl (Nat.le_of_ble_eq_true rfl) ?_
  rfl
theorem truth89 (b : Bool) : Does (CG G) 151 [.b b] [.s (if b then [116, 114, 117, 101] else [102, 97, 108, 115, 101])] := by
  refine Does.mk (n := 4) Tryd.func151 rfl rfl rfl (Nat.le_of_ble_eq_true rfl) ?_
  cases b
  · repeat refine seq_on ?_
    rfl
  · repeat refine seq_on ?_
    rfl
theorem truth75 (b : Bool) : Does (CG G) 110 [.b b] [.s (if b then [116, 114, 117, 101] else [102, 97, 108, 115, 101])] := by
  refine Does.mk (n := 4) Tryd.func110 rfl rfl rfl (Nat.le_of_ble_eq_true rfl) ?_
  cases b
  · repeat refine seq_on ?_
    rfl
  · repeat refine seq_on ?_
    rfl
end Go.Proofs.YtiokdhklhnhfhaaDoor

namespace Go.Proofs.YtiokdhklhnhfhaaDoor
variable {G : List Go.Eng.Gl}
open Go.Eng
attribute [local irreducible] Hold
set_option maxRecDepth 100000

theorem cut51 (l : List Int) (n : Nat) : Does (CG G) 56 [ints l, .i .i64 (n : Int)] [ints (l.take n)] := by
  refine Does.mk (n := 13) Tryd.func56 rfl rfl rfl (Nat.le_of_ble_eq_true rfl) ?_
  have hlen : (l.map (D.i .i64)).length = l.length := by simp
  repeat refine seq_on ?_
  refine cmp_dec (fun h1 => ?_) (fun h1 => ?_)
  · repeat refine seq_on ?_
    refine bnd n rfl (by omega) ?_
    refine congrArg (fun x => [D.sl 1 x]) ?_
    simp [List.map_take]
  · repeat refine seq_on ?_
    refine congrArg (fun x => [D.sl 1 x]) ?_
    rw [List.take_of_length_le (by omega)]

def nxt (l : List Int) (i : Nat) : Nat := if i < l.length then i + 1 else i
def srcB (l : List Int) (i : Nat) : List (Nat × Option Ent) := [(0, some (.box [.d (ints l), .d (.i .i64 (i : Int))]))]

theorem left66 (l : List Int) (i : Nat) : DoesH (CG G) 58 [.op 0 0 0] (srcB l i) [.d (.b (decide ((i : Int) < (l.length : Int))))] (srcB l i) := by
  refine DoesH.mk (n := 13) Tryd.func58 rfl rfl rfl (Nat.le_of_ble_eq_true rfl) rfl ?_
  have hlen : (l.map (D.i .i64)).length = l.length := by simp
  refine cmp_is (decide ((i : Int) < (l.length : Int))) (by rw [hlen]) ?_
  refine ⟨draw_ok (by kernel_rfl), ?_⟩
  refine end_ok [] ?_
  ((repeat' constructor) <;> (first | refine hold ?_ | rfl) <;> first | with_reducible rfl | (congr 1 <;> omega) | (congr 1 <;> simp; done) | (simp; done) | exact encB_snoc _ _ | skip)

theorem next67 (l : List Int) (i : Nat) (n : Int) (hi : i ≤ l.length) (hl : l.length ≤ 1000000) (hn : 1 ≤ n ∧ n ≤ 4611686018427387904) : ∃ r : Nat, (r : Int) < n ∧ DoesH (CG G) 60 [.op 0 0 0, .d (.i .i64 n)] (srcB l i) [.d (.i .i64 (r : Int))] (srcB l (nxt l i)) := by
  have hlen : (l.map (D.i .i64)).length = l.length := by simp
  by_cases h : i < l.length
  · obtain ⟨r, hr, hw⟩ := within38 (l.getD i 0) n hn
    refine ⟨r, hr, ?_⟩
    refine DoesH.mk (n := 35) Tryd.func60 rfl rfl rfl (Nat.le_of_ble_eq_true rfl) rfl ?_
    repeat refine seq_on ?_
    refine cmp_no (by omega) ?_
    refine ⟨draw_ok (by kernel_rfl), ?_⟩
    repeat refine seq_on ?_
    refine ar ⟨by omega, by omega⟩ ?_
    refine ar ⟨by omega, by omega⟩ ?_
    refine Eng.get_at i (by omega) (getInts h) ?_
    refine call_by hw ?_
    refine ⟨draw_ok (by kernel_rfl), ?_⟩
    refine end_ok [] ?_
    simp only [nxt, if_pos h]
    ((repeat' constructor) <;> (first | refine hold ?_ | rfl) <;> first | with_reducible rfl | (congr 1 <;> omega) | (congr 1 <;> simp; done) | (simp; done) | exact encB_snoc _ _ | skip)
  · refine ⟨0, by omega, ?_⟩
    refine DoesH.mk (n := 35) Tryd.func60 rfl rfl rfl (Nat.le_of_ble_eq_true rfl) rfl ?_
    repeat refine seq_on ?_
    refine cmp_yes (by omega) ?_
    refine ⟨draw_ok (by kernel_rfl), ?_⟩
    repeat refine seq_on ?_
    refine end_ok [] ?_
    simp only [nxt, if_neg h]
    ((repeat' constructor) <;> (first | refine hold ?_ | rfl) <;> first | with_reducible rfl | (congr 1 <;> omega) | (congr 1 <;> simp; done) | (simp; done) | exact encB_snoc _ _ | skip)

theorem of86 (l : List Int) (i : Nat) (m : List (List UInt8)) (hi : i ≤ l.length) (hl : l.length ≤ 1000000) (hm : 1 ≤ m.length ∧ m.length ≤ 1000000) : ∃ x, x ∈ m ∧ DoesH (CG G) 61 [.op 0 0 0, .d (strs m)] (srcB l i) [.d (.s x)] (srcB l (nxt l i)) := by
  have hlen : (m.map D.s).length = m.length := by simp
  obtain ⟨r, hr, hx⟩ := next67 l i ((m.map D.s).length : Int) hi hl (by omega)
  have hr' : r < m.length := by omega
  refine ⟨m[r], List.getElem_mem hr', ?_⟩
  refine DoesH.mk (n := 12) Tryd.func61 rfl rfl rfl (Nat.le_of_ble_eq_true rfl) rfl ?_
  refine callh [(0, 0)] hx ?_ ?_
  · ((repeat' constructor) <;> (first | refine hold ?_ | rfl) <;> first | with_reducible rfl | (congr 1 <;> omega) | (congr 1 <;> simp; done) | (simp; done) | exact encB_snoc _ _ | skip)
  refine Eng.get_at r rfl (x := D.s m[r]) (by simp [hr']) ?_
  refine end_ok [] ?_
  ((repeat' constructor) <;> (first | refine hold ?_ | rfl) <;> first | with_reducible rfl | (congr 1 <;> omega) | (congr 1 <;> simp; done) | (simp; done) | exact encB_snoc _ _ | skip)
end Go.Proofs.YtiokdhklhnhfhaaDoor

namespace Go.Proofs.YtiokdhklhnhfhaaDoor
variable {G : List Go.Eng.Gl}
open Go.Eng
attribute [local irreducible] Hold
set_option maxRecDepth 100000

def words3 : List (List UInt8) := [[101, 116, 97, 103], [120, 45, 97], [120, 45, 98]]

def f68s (l : List Int) (s b : Bool) (x : Nat × Nat × List (List UInt8)) : AS :=
  ⟨[(0, .op 0 0 0), (2, .op 16 0 0), (3, .op 17 0 0), (4, .d (.i .i64 (x.1 : Int)))],
   [(0, some (.box [.d (ints l), .d (.i .i64 (x.2.1 : Int))])), (16, some (.box [.d (.b false), .d (.b false), .nl 1])), (17, some (.box [.d (.b s), .d (.b b), .os 18])), (18, some (.buf 1 (x.2.2.map .s)))], 2⟩

theorem nxt_le (l : List Int) (i : Nat) (h : i ≤ l.length) : nxt l i ≤ l.length := by unfold nxt; split <;> omega
theorem nxt_ge (l : List Int) (i : Nat) : i ≤ nxt l i := by unfold nxt; split <;> omega

/-- Where k more picks lead. -/
def walk3 (l : List Int) (px : Nat → List UInt8) : Nat → Nat → List (List UInt8) → Nat × List (List UInt8)
  | 0, i, f => (i, f)
  | k + 1, i, f => walk3 l px k (nxt l i) (f ++ [px i])
theorem walk3_ok (l : List Int) (px : Nat → List UInt8) (hp : ∀ i, i ≤ l.length → px i ∈ words3) : ∀ (k i : Nat) (f : List (List UInt8)), i ≤ l.length → (∀ x, x ∈ f → x ∈ words3) →
    i ≤ (walk3 l px k i f).1 ∧ (walk3 l px k i f).1 ≤ l.length ∧ (walk3 l px k i f).2.length = f.length + k ∧ ∀ x, x ∈ (walk3 l px k i f).2 → x ∈ words3
  | 0, i, f, hi, hf => ⟨Nat.le_refl _, hi, rfl, hf⟩
  | k + 1, i, f, hi, hf => by
    have := walk3_ok l px hp k (nxt l i) (f ++ [px i]) (nxt_le l i hi) fun x hx => by
      rcases List.mem_append.1 hx with hx | hx
      · exact hf x hx
      · simp at hx; subst hx; exact hp i hi
    have h2 := nxt_ge l i
    simp only [walk3]
    simp at this
    refine ⟨by omega, this.2.1, by omega, this.2.2.2⟩

end Go.Proofs.YtiokdhklhnhfhaaDoor

namespace Go.Proofs.YtiokdhklhnhfhaaDoor
variable {G : List Go.Eng.Gl}
open Go.Eng
attribute [local irreducible] Hold
set_option maxRecDepth 100000

/-- The last ones. -/
def lastF (cap : Int) (l : List Rec) : List Rec := l.drop (l.length - (max cap 0).toNat)

def serF (ser : Int) : Int := if ser < 1000000000 then ser + 1 else ser

def a52 (cap ser exc rea : Int) (s b : Bool) (f : List (List UInt8)) (l : List Rec) : AS :=
  ⟨[(4, .op 16 0 0), (7, .op 17 0 0), (8, .op 15 0 0), (1, .d (.i .i64 exc)), (2, .d (.i .i64 rea))],
   [(16, some (.box [.d (.i .i64 cap), .d (.i .i64 ser), .d (recs l)])), (17, some (.box [.d (.b s), .d (.b b), .d (strs f)])), (15, some (.box [.d (.i .i64 0), .d (.i .i64 0), .nl 6]))], 2⟩
/-- In the loop: i records have been taken over. -/
def l52 (cap ser exc rea : Int) (s b : Bool) (f : List (List UInt8)) (l : List Rec) (i : Nat) : AS :=
  ⟨[(7, .op 17 0 0), (8, .op 15 0 0), (1, .d (.i .i64 exc)), (2, .d (.i .i64 rea)), (25, .d (recs l)), (26, .d (.i .i64 (l.length : Int))), (27, .d (.i .i64 (i : Int)))],
   [(17, some (.box [.d (.b s), .d (.b b), .d (strs f)])), (15, some (.box [.d (.i .i64 cap), .d (.i .i64 (serF ser)), .os 16])), (16, some (.buf 6 ((l.take i).map recD)))], 2⟩

def m52 (cap ser exc rea : Int) (s b : Bool) (f : List (List UInt8)) (l : List Rec) : AS :=
  ⟨[(4, .op 16 0 0), (7, .op 17 0 0), (8, .op 15 0 0), (1, .d (.i .i64 exc)), (2, .d (.i .i64 rea))],
   [(15, some (.box [.d (.i .i64 cap), .d (.i .i64 (serF ser)), .nl 6])), (16, some (.box [.d (.i .i64 cap), .d (.i .i64 ser), .d (recs l)])), (17, some (.box [.d (.b s), .d (.b b), .d (strs f)]))], 2⟩

end Go.Proofs.YtiokdhklhnhfhaaDoor

namespace Go.Proofs.YtiokdhklhnhfhaaDoor
variable {G : List Go.Eng.Gl}
open Go.Eng
attribute [local irreducible] Hold
set_option maxRecDepth 100000

def m43 (cap ser exc rea : Int) (s b : Bool) (f : List (List UInt8)) (l : List Rec) : AS :=
  ⟨[(4, .op 16 0 0), (7, .op 17 0 0), (8, .op 18 0 0), (1, .d (.i .i64 exc)), (2, .d (.i .i64 rea))],
   [(16, some (.box [.d (.i .i64 cap), .d (.i .i64 (serF ser)), .d (recs l)])), (17, some (.box [.d (.b s), .d (.b b), .d (strs f)])), (18, some (.box [.d (.i .i64 0), .d (.i .i64 0), .nl 6]))], 2⟩

theorem add43 (cap ser exc rea : Int) (s b : Bool) (f : List (List UInt8)) (l : List Rec) (hl : l.length < 68719476736) (hc : 0 ≤ cap ∧ cap ≤ 9223372036854775807) (hs : I64 ser) :
    Does (CG G) 59 [repD cap ser l, .i .i64 exc, .i .i64 rea, difD s b f] [repD cap (serF ser) (lastF cap (l ++ [⟨serF ser, exc, rea, s, b, f⟩]))] := by
  have hlen : (l.map recD).length = l.length := by simp
  refine Does.mk (n := 39) Tryd.func59 rfl rfl rfl (Nat.le_of_ble_eq_true rfl) ?_
  apply seq_inv (fun _ : Unit => True) (fun _ => m43 cap ser exc rea s b f l)
  · refine cmp_dec (fun h => ?_) (fun h => ?_)
    · refine ar ⟨by have := hs.1; omega, by omega⟩ ?_
      apply cut_inv () [(16, _), (17, _), (18, _)] trivial
      simp only [m43, serF, if_pos h]
      ((repeat' constructor) <;> (first | refine hold ?_ | rfl) <;> first | with_reducible rfl | (congr 1 <;> omega) | (congr 1 <;> simp; done) | (simp; done) | exact encB_snoc _ _ | skip)
    · apply cut_inv () [(16, _), (17, _), (18, _)] trivial
      simp only [m43, serF, if_neg h]
      ((repeat' constructor) <;> (first | refine hold ?_ | rfl) <;> first | with_reducible rfl | (congr 1 <;> omega) | (congr 1 <;> simp; done) | (simp; done) | exact encB_snoc _ _ | skip)
  rintro ⟨⟩ _
  repeat refine seq_on ?_
  refine app_ok (by simp; omega) ?_
  refine app_ok (by simp; omega) ?_
  refine ⟨draw_ok (by kernel_rfl), ?_⟩
  repeat refine seq_on ?_
  refine ar ⟨by simp; omega, by simp; omega⟩ ?_
  refine bnd ((l.length + 1) - cap.toNat) (by simp; omega) (by simp) ?_
  refine congrArg (fun x => [D.agg [.i .i64 cap, .i .i64 (serF ser), .sl 6 x]]) ?_
  have e : (max cap 0).toNat = cap.toNat := by rw [Int.max_eq_left hc.1]
  simp only [lastF, List.map_drop, List.map_append, e, List.length_append, List.length_singleton]
  rfl
end Go.Proofs.YtiokdhklhnhfhaaDoor

namespace Go.Proofs.YtiokdhklhnhfhaaDoor
variable {G : List Go.Eng.Gl}
open Go.Eng
attribute [local irreducible] Hold
set_option maxRecDepth 100000

def sameF (s b : Bool) (f : List (List UInt8)) : Bool := !s && !b && decide (f = [])

theorem len_dec {β γ : Type} (g : β → γ) (f : List β) : decide (((f.map g).length : Int) = 0) = decide (f = []) := by
  cases f <;> simp; omega

theorem same70 (s b : Bool) (f : List (List UInt8)) : Does (CG G) 150 [difD s b f] [.b (sameF s b f)] := by
  refine Does.mk (n := 17) Tryd.func150 rfl rfl rfl (Nat.le_of_ble_eq_true rfl) ?_
  cases s <;> cases b
  · refine cmp_is (decide (f = [])) (len_dec _ f) ?_
    exact congrArg (fun x => [D.b x]) (by simp [sameF])
  all_goals exact congrArg (fun x => [D.b x]) (by simp [sameF])

theorem same71 (s b : Bool) (f : List (List UInt8)) : Does (CG G) 154 [difD s b f] [.b (sameF s b f)] := by
  refine Does.mk (n := 17) Tryd.func154 rfl rfl rfl (Nat.le_of_ble_eq_true rfl) ?_
  cases s <;> cases b
  · refine cmp_is (decide (f = [])) (len_dec _ f) ?_
    exact congrArg (fun x => [D.b x]) (by simp [sameF])
  all_goals exact congrArg (fun x => [D.b x]) (by simp [sameF])

def wSame : List UInt8 := [115, 97, 109, 101]
def wStatus : List UInt8 := [115, 116, 97, 116, 117, 115]
def wBody : List UInt8 := [98, 111, 100, 121]
def wField : List UInt8 := [102, 105, 101, 108, 100, 58]
def words0 (x : Rec) : List (List UInt8) := [jnum x.ser, jnum x.exc, jnum x.rea]
def words1 (x : Rec) : List (List UInt8) := words0 x ++ if sameF x.st x.bo x.fl then [wSame] else []
def words2 (x : Rec) : List (List UInt8) := words1 x ++ if x.st then [wStatus] else []
def wordsB (x : Rec) : List (List UInt8) := words2 x ++ if x.bo then [wBody] else []
def wordsF (x : Rec) : List (List UInt8) := if x.rea = 1 then wordsB x ++ x.fl.map (wField ++ ·) else words0 x
def lineF (x : Rec) : List UInt8 := joinF (wordsF x) [32] ++ [10]

def f44s (x : Rec) (ws : List (List UInt8)) : AS :=
  ⟨[(1, .op 16 0 0), (3, .os 17), (4, .op 18 0 0)], [(16, some (.box (x.cells.map .d))), (17, some (.buf 1 (ws.map .s))), (18, some (.box [.d (.b x.st), .d (.b x.bo), .d (strs x.fl)]))], 2⟩
def l44s (x : Rec) (i : Nat) : AS :=
  ⟨[(3, .os 17), (38, .d (strs x.fl)), (39, .d (.i .i64 (x.fl.length : Int))), (40, .d (.i .i64 (i : Int)))], [(17, some (.buf 1 ((wordsB x ++ (x.fl.take i).map (wField ++ ·)).map .s)))], 2⟩
def e44s (x : Rec) : AS := ⟨[(3, .os 17)], [(17, some (.buf 1 ((wordsF x).map .s)))], 2⟩

theorem wordsB_len (x : Rec) : (wordsB x).length ≤ 6 := by
  unfold wordsB words2 words1 words0
  split <;> split <;> split <;> simp
theorem words_len (x : Rec) : (wordsF x).length ≤ 6 + x.fl.length := by
  have := wordsB_len x
  unfold wordsF
  split
  · simp; omega
  · simp [words0]; omega

theorem line44 (x : Rec) (h1 : I64 x.ser) (h2 : I64 x.exc) (h3 : I64 x.rea) (hf : x.fl.length ≤ 1048576) (hl : ∀ y, y ∈ x.fl → y.length ≤ 1048576) (hj : (joinF (wordsF x) [32]).length ≤ 137438953472) : Does (CN G) 102 [recD x] [.s (lineF x)] := by
  have hwl := words_len x
  have hbl := wordsB_len x
  have hlen : (x.fl.map D.s).length = x.fl.length := by simp
  refine Does.mk (n := 53) Tryd.func102 rfl rfl rfl (Nat.le_of_ble_eq_true rfl) ?_
  refine call_by (num28 _ h1) ?_
  refine call_by (num28 _ h2) ?_
  refine call_by (num28 _ h3) ?_
  refine ⟨draw_ok (by kernel_rfl), ?_⟩
  apply seq_inv (fun _ : Unit => True) (fun _ => e44s x)
  · repeat refine seq_on ?_
    refine cmp_dec (fun h => ?_) (fun h => ?_)
    · apply seq_inv (fun _ : Unit => True) (fun _ => f44s x (words1 x))
      · have hc := same70 (G := gN G) x.st x.bo x.fl
        cases hs : sameF x.st x.bo x.fl <;> rw [hs] at hc
        · refine call_by hc ?_
          apply cut_inv () [(16, _), (17, _), (18, _)] trivial
          simp only [f44s, words1, words0, hs, Rec.cells]
          ((repeat' constructor) <;> (first | refine hold ?_ | rfl) <;> first | with_reducible rfl | (congr 1 <;> omega) | (congr 1 <;> simp; done) | (simp; done) | exact encB_snoc _ _ | skip)
        · refine call_by hc ?_
          refine app_ok (by simp) ?_
          apply cut_inv () [(16, _), (17, _), (18, _)] trivial
          simp only [f44s, words1, words0, hs, Rec.cells]
          ((repeat' constructor) <;> (first | refine hold ?_ | rfl) <;> first | with_reducible rfl | (congr 1 <;> omega) | (congr 1 <;> simp; done) | (simp; done) | exact encB_snoc _ _ | skip)
      rintro ⟨⟩ _
      obtain ⟨ser, exc, rea, st, bo, fl⟩ := x
      have hw1 : (words1 ⟨ser, exc, rea, st, bo, fl⟩).length ≤ 4 := by unfold words1 words0; split <;> simp
      apply seq_inv (fun _ : Unit => True) (fun _ => f44s ⟨ser, exc, rea, st, bo, fl⟩ (words2 ⟨ser, exc, rea, st, bo, fl⟩))
      · cases st
        · apply cut_inv () [(16, _), (17, _), (18, _)] trivial
          simp only [f44s, words2, Rec.cells]
          ((repeat' constructor) <;> (first | refine hold ?_ | rfl) <;> first | with_reducible rfl | (congr 1 <;> omega) | (congr 1 <;> simp; done) | (simp; done) | exact encB_snoc _ _ | skip)
        · refine app_ok (by simp; omega) ?_
          apply cut_inv () [(16, _), (17, _), (18, _)] trivial
          simp only [f44s, words2, Rec.cells]
          ((repeat' constructor) <;> (first | refine hold ?_ | rfl) <;> first | with_reducible rfl | (congr 1 <;> omega) | (congr 1 <;> simp; done) | (simp; done) | exact encB_snoc _ _ | skip)
      rintro ⟨⟩ _
      have hw2 : (words2 ⟨ser, exc, rea, st, bo, fl⟩).length ≤ 5 := by unfold words2; split <;> simp <;> omega
      apply seq_inv (fun _ : Unit => True) (fun _ => f44s ⟨ser, exc, rea, st, bo, fl⟩ (wordsB ⟨ser, exc, rea, st, bo, fl⟩))
      · cases bo
        · apply cut_inv () [(16, _), (17, _), (18, _)] trivial
          simp only [f44s, wordsB, Rec.cells]
          ((repeat' constructor) <;> (first | refine hold ?_ | rfl) <;> first | with_reducible rfl | (congr 1 <;> omega) | (congr 1 <;> simp; done) | (simp; done) | exact encB_snoc _ _ | skip)
        · refine app_ok (by simp; omega) ?_
          apply cut_inv () [(16, _), (17, _), (18, _)] trivial
          simp only [f44s, wordsB, Rec.cells]
          ((repeat' constructor) <;> (first | refine hold ?_ | rfl) <;> first | with_reducible rfl | (congr 1 <;> omega) | (congr 1 <;> simp; done) | (simp; done) | exact encB_snoc _ _ | skip)
          simp [wBody]
      rintro ⟨⟩ _
      repeat refine seq_on ?_
      apply loop_inv (fun i => i ≤ fl.length) (l44s ⟨ser, exc, rea, st, bo, fl⟩) (fun i => fl.length - i) 0 (Nat.zero_le _) [(17, _)]
      · ((repeat' constructor) <;> (first | refine hold ?_ | rfl) <;> first | with_reducible rfl | (congr 1 <;> omega) | (congr 1 <;> simp; done) | (simp; done) | exact encB_snoc _ _ | skip)
      intro i hi
      repeat refine seq_on ?_
      refine cmp_dec (fun h' => ?_) (fun h' => ?_)
      · have hi' : i < fl.length := by simp only at h'; omega
        repeat refine seq_on ?_
        refine Eng.get_at i rfl (x := .s fl[i]) (by simp [hi']) ?_
        have := hl _ (List.getElem_mem hi')
        refine len_ok (by simp only [List.length_cons, List.length_nil]; simp; omega) ?_
        refine app_ok (by simp; omega) ?_
        repeat refine seq_on ?_
        refine ar ⟨by omega, by omega⟩ ?_
        apply again (i + 1) [(17, _)] (by omega) (by omega)
        ((repeat' constructor) <;> (first | refine hold ?_ | rfl) <;> first | with_reducible rfl | (congr 1 <;> omega) | (congr 1 <;> simp; done) | (simp; done) | exact encB_snoc _ _ | skip)
        simp only [List.take_succ_eq_append_getElem hi', List.map_append, List.append_assoc]; rfl
      · obtain rfl : i = fl.length := by simp only at h'; omega
        repeat refine seq_on ?_
        apply cut_inv () [(17, _)] trivial
        simp only [e44s, wordsF, if_pos h]
        ((repeat' constructor) <;> (first | refine hold ?_ | rfl) <;> first | with_reducible rfl | (congr 1 <;> omega) | (congr 1 <;> simp; done) | (simp; done) | exact encB_snoc _ _ | skip)
    · apply cut_inv () [(17, _)] trivial
      simp only [e44s, wordsF, if_neg h, words0]
      ((repeat' constructor) <;> (first | refine hold ?_ | rfl) <;> first | with_reducible rfl | (congr 1 <;> omega) | (congr 1 <;> simp; done) | (simp; done) | exact encB_snoc _ _ | skip)
  rintro ⟨⟩ _
  repeat refine seq_on ?_
  refine call_by (join58 (wordsF x) [32] (by omega) (by omega)) ?_
  refine len_ok (by simp only [List.length_cons, List.length_nil]; omega) ?_
  rfl
end Go.Proofs.YtiokdhklhnhfhaaDoor

namespace Go.Proofs.YtiokdhklhnhfhaaDoor
variable {G : List Go.Eng.Gl}
open Go.Eng
attribute [local irreducible] Hold
set_option maxRecDepth 100000

def f45s (x : Rec) (t : List UInt8) : AS := ⟨[(1, .op 16 0 0), (3, .d (.s t))], [(16, some (.box (x.cells.map .d)))], 2⟩
def l45s (x : Rec) (i : Nat) : AS := ⟨[(1, .op 16 0 0), (3, .d (.s (joinF (wordsB x ++ (x.fl.take i).map (wField ++ ·)) [32]))), (4, .d (.i .i64 (i : Int)))], [(16, some (.box (x.cells.map .d)))], 2⟩

theorem join_more (ws : List (List UInt8)) (w : List UInt8) (h : ws ≠ []) : joinF (ws ++ [w]) [32] = joinF ws [32] ++ [32] ++ w := by
  rw [join_snoc, if_neg h]
theorem words0_ne (x : Rec) : words0 x ≠ [] := by simp [words0]
theorem words1_ne (x : Rec) : words1 x ≠ [] := by simp [words1, words0]
theorem words2_ne (x : Rec) : words2 x ≠ [] := by simp [words2, words1, words0]
theorem wordsB_ne (x : Rec) : wordsB x ≠ [] := by simp [wordsB, words2, words1, words0]
theorem join0 (x : Rec) : joinF (words0 x) [32] = jnum x.ser ++ [32] ++ jnum x.exc ++ [32] ++ jnum x.rea := by
  have e1 : words0 x = ([] ++ [jnum x.ser] ++ [jnum x.exc]) ++ [jnum x.rea] := rfl
  rw [e1, join_more _ _ (by simp), join_more _ _ (by simp), join_snoc]
  simp

theorem part_le (x : Rec) (h : x.rea = 1) (i : Nat) : (joinF (wordsB x ++ (x.fl.take i).map (wField ++ ·)) [32]).length ≤ (joinF (wordsF x) [32]).length := by
  have := join_mono (wordsF x) [32] ((wordsB x).length + i)
  rw [wordsF, if_pos h, List.take_length_add_append, ← List.map_take] at this
  rw [wordsF, if_pos h]
  exact this

theorem line45 (x : Rec) (h1 : I64 x.ser) (h2 : I64 x.exc) (h3 : I64 x.rea) (hf : x.fl.length ≤ 1048576) (hj : (joinF (wordsF x) [32]).length ≤ 137438953472)
    (n1 : (jnum x.ser).length ≤ 32) (n2 : (jnum x.exc).length ≤ 32) (n3 : (jnum x.rea).length ≤ 32) : Does (CG G) 107 [recD x] [.s (lineF x)] := by
  have hj0 := join0 x
  refine Does.mk (n := 57) Tryd.func107 rfl rfl rfl (Nat.le_of_ble_eq_true rfl) ?_
  refine call_by (num29 _ h1) ?_
  refine len_ok (by simp; omega) ?_
  refine call_by (num29 _ h2) ?_
  refine len_ok (by simp; omega) ?_
  refine len_ok (by simp; omega) ?_
  refine call_by (num29 _ h3) ?_
  refine len_ok (by simp; omega) ?_
  refine ⟨draw_ok (by kernel_rfl), ?_⟩
  repeat refine seq_on ?_
  refine cmp_dec (fun h => ?_) (fun h => ?_)
  · repeat refine seq_on ?_
    refine len_ok (by simp; omega) ?_
    refine congrArg (fun t => [D.s t]) ?_
    simp only [lineF, wordsF, if_neg h, hj0]
  have h : x.rea = 1 := Decidable.not_not.1 h
  repeat refine seq_on ?_
  have hc := same71 (G := G) x.st x.bo x.fl
  have b0 : (joinF (words0 x) [32]).length ≤ 98 := by rw [hj0]; simp; omega
  cases hs : sameF x.st x.bo x.fl <;> rw [hs] at hc
  case true =>
    refine call_by hc ?_
    repeat refine seq_on ?_
    refine len_ok (by simp; omega) ?_
    refine congrArg (fun t => [D.s t]) ?_
    have hs' := hs
    simp only [sameF, Bool.and_eq_true, Bool.not_eq_true', decide_eq_true_eq] at hs'
    have e : wordsF x = words0 x ++ [wSame] := by
      simp only [wordsF, if_pos h, wordsB, words2, words1, hs'.1.1, hs'.1.2]
      rw [hs'.2]; simp [sameF]
    rw [lineF, e, join_more _ _ (words0_ne x), hj0]
    simp [wSame]
  refine call_by hc ?_
  have e1 : words1 x = words0 x := by simp [words1, hs]
  obtain ⟨ser, exc, rea, st, bo, fl⟩ := x
  simp only at n1 n2 n3 hj0 h hf
  apply seq_inv (fun _ : Unit => True) (fun _ => f45s ⟨ser, exc, rea, st, bo, fl⟩ (joinF (words2 ⟨ser, exc, rea, st, bo, fl⟩) [32]))
  · cases st
    · have e2 : words2 ⟨ser, exc, rea, false, bo, fl⟩ = words0 ⟨ser, exc, rea, false, bo, fl⟩ := by simp [words2, e1]
      rw [e2, hj0]
      apply cut_inv () [(16, _)] trivial
      simp only [f45s, Rec.cells]
      ((repeat' constructor) <;> (first | refine hold ?_ | rfl) <;> first | with_reducible rfl | (congr 1 <;> omega) | (congr 1 <;> simp; done) | (simp; done) | exact encB_snoc _ _ | skip)
    · refine len_ok (by simp; omega) ?_
      have e2 : words2 ⟨ser, exc, rea, true, bo, fl⟩ = words0 ⟨ser, exc, rea, true, bo, fl⟩ ++ [wStatus] := by simp [words2, e1]
      rw [e2, join_more _ _ (words0_ne _), hj0]
      apply cut_inv () [(16, _)] trivial
      simp only [f45s, Rec.cells]
      ((repeat' constructor) <;> (first | refine hold ?_ | rfl) <;> first | with_reducible rfl | (congr 1 <;> omega) | (congr 1 <;> simp; done) | (simp; done) | exact encB_snoc _ _ | skip)
      simp [wStatus]
  rintro ⟨⟩ _
  have b2 : (joinF (words2 ⟨ser, exc, rea, st, bo, fl⟩) [32]).length ≤ 110 := by
    cases st
    · rw [show words2 ⟨ser, exc, rea, false, bo, fl⟩ = words0 ⟨ser, exc, rea, false, bo, fl⟩ by simp [words2, e1]]; omega
    · rw [show words2 ⟨ser, exc, rea, true, bo, fl⟩ = words0 ⟨ser, exc, rea, true, bo, fl⟩ ++ [wStatus] by simp [words2, e1], join_more _ _ (words0_ne _)]; simp [wStatus]; omega
  apply seq_inv (fun _ : Unit => True) (fun _ => f45s ⟨ser, exc, rea, st, bo, fl⟩ (joinF (wordsB ⟨ser, exc, rea, st, bo, fl⟩) [32]))
  · cases bo
    · have e2 : wordsB ⟨ser, exc, rea, st, false, fl⟩ = words2 ⟨ser, exc, rea, st, false, fl⟩ := by simp [wordsB]
      rw [e2]
      apply cut_inv () [(16, _)] trivial
      simp only [f45s, Rec.cells]
      ((repeat' constructor) <;> (first | refine hold ?_ | rfl) <;> first | with_reducible rfl | (congr 1 <;> omega) | (congr 1 <;> simp; done) | (simp; done) | exact encB_snoc _ _ | skip)
    · refine len_ok (by simp; omega) ?_
      have e2 : wordsB ⟨ser, exc, rea, st, true, fl⟩ = words2 ⟨ser, exc, rea, st, true, fl⟩ ++ [wBody] := by simp [wordsB]
      rw [e2, join_more _ _ (words2_ne _)]
      apply cut_inv () [(16, _)] trivial
      simp only [f45s, Rec.cells]
      ((repeat' constructor) <;> (first | refine hold ?_ | rfl) <;> first | with_reducible rfl | (congr 1 <;> omega) | (congr 1 <;> simp; done) | (simp; done) | exact encB_snoc _ _ | skip)
      simp [wBody]
  rintro ⟨⟩ _
  repeat refine seq_on ?_
  have hlen : (fl.map D.s).length = fl.length := by simp
  apply loop_inv (fun i => i ≤ fl.length) (l45s ⟨ser, exc, rea, st, bo, fl⟩) (fun i => fl.length - i) 0 (Nat.zero_le _) []
  · ((repeat' constructor) <;> (first | refine hold ?_ | rfl) <;> first | with_reducible rfl | (congr 1 <;> omega) | (congr 1 <;> simp; done) | (simp; done) | exact encB_snoc _ _ | skip)
  intro i hi
  repeat refine seq_on ?_
  refine cmp_dec (fun h' => ?_) (fun h' => ?_)
  · have hi' : i < fl.length := by simp at h'; omega
    have hp := part_le ⟨ser, exc, rea, st, bo, fl⟩ h (i + 1)
    have e3 : wordsB ⟨ser, exc, rea, st, bo, fl⟩ ++ (fl.take (i + 1)).map (wField ++ ·) = (wordsB ⟨ser, exc, rea, st, bo, fl⟩ ++ (fl.take i).map (wField ++ ·)) ++ [wField ++ fl[i]] := by
      rw [List.take_succ_eq_append_getElem hi', List.map_append, List.append_assoc]; rfl
    simp only at hp
    rw [e3, join_more _ _ (by simp [wordsB_ne])] at hp
    have hwf : wField.length = 6 := rfl
    simp only [List.length_append, List.length_cons, List.length_nil, hwf] at hp
    repeat refine seq_on ?_
    refine len_ok (by show (joinF _ [32]).length + 7 ≤ _; simp only; omega) ?_
    refine Eng.get_at i rfl (x := .s fl[i]) (by simp [hi']) ?_
    refine len_ok (by simp only [List.length_append]; show (joinF _ [32]).length + 7 + fl[i].length ≤ _; omega) ?_
    repeat refine seq_on ?_
    refine ar ⟨by omega, by omega⟩ ?_
    apply again (i + 1) [] (by omega) (by omega)
    simp only [l45s]
    rw [e3, join_more _ _ (by simp [wordsB_ne])]
    ((repeat' constructor) <;> (first | refine hold ?_ | rfl) <;> first | with_reducible rfl | (congr 1 <;> omega) | (congr 1 <;> simp; done) | (simp; done) | exact encB_snoc _ _ | skip)
    simp [wField]
  · obtain rfl : i = fl.length := by simp at h'; omega
    have hp := part_le ⟨ser, exc, rea, st, bo, fl⟩ h fl.length
    repeat refine seq_on ?_
    refine len_ok (by simp only [List.length_cons, List.length_nil]; simp only at hp; omega) ?_
    refine congrArg (fun t => [D.s t]) ?_
    simp only [lineF, wordsF, if_pos h, List.take_of_length_le (Nat.le_refl _)]
end Go.Proofs.YtiokdhklhnhfhaaDoor

namespace Go.Proofs.YtiokdhklhnhfhaaDoor
variable {G : List Go.Eng.Gl}
open Go.Eng
attribute [local irreducible] Hold
set_option maxRecDepth 100000

theorem same94 : SameFn (CG G) 198 := by
  intro v w
  show (callFunc 198 #[v]).run Tryd.prog w = _
  rw [run_callFunc_extern Tryd.func198 (by kernel_rfl) (by kernel_rfl) (by kernel_rfl) (e := Extern.AbiNoEscape.same) (by kernel_rfl)]
  rfl

def np : AV := .d (.x (.pointer none))

theorem check88f : DoesH (CG G) 149 [.op 0 0 0] [(0, some (.box [np, .nl 1] (some 141)))] [] [(0, some (.box [.op 0 0 0, .nl 1] (some 141)))] := by
  refine DoesH.mk (n := 20) Tryd.func149 rfl rfl rfl (Nat.le_of_ble_eq_true rfl) rfl ?_
  repeat refine seq_on ?_
  refine call_same same94 ?_
  refine lies (by kernel_rfl) ?_
  refine end_ok [] ?_
  ((repeat' constructor) <;> (first | refine hold ?_ | rfl) <;> first | with_reducible rfl | (congr 1 <;> omega) | (congr 1 <;> simp; done) | (simp; done) | exact encB_snoc _ _ | skip)

theorem check88 (l : List UInt8) : DoesH (CG G) 149 [.op 0 0 0] [(0, some (.box [.op 0 0 0, .os 1] (some 141))), (1, some (.buf 1 (encB l) (some 5)))] [] [(0, some (.box [.op 0 0 0, .os 1] (some 141))), (1, some (.buf 1 (encB l) (some 5)))] := by
  refine DoesH.mk (n := 20) Tryd.func149 rfl rfl rfl (Nat.le_of_ble_eq_true rfl) rfl ?_
  repeat refine seq_on ?_
  refine end_ok [] ?_
  ((repeat' constructor) <;> (first | refine hold ?_ | rfl) <;> first | with_reducible rfl | (congr 1 <;> omega) | (congr 1 <;> simp; done) | (simp; done) | exact encB_snoc _ _ | skip)

def bldF : List (Nat × Option Ent) := [(0, some (.box [np, .nl 1] (some 141)))]
def bldU (l : List UInt8) : List (Nat × Option Ent) := [(0, some (.box [.op 0 0 0, .os 1] (some 141))), (1, some (.buf 1 (encB l) (some 5)))]
def bldN (l : List UInt8) : List (Nat × Option Ent) := [(0, some (.box [.op 0 0 0, .os 16] (some 141))), (16, some (.buf 1 (encB l) (some 5)))]

theorem write72f (s : List UInt8) (h : s.length ≤ 68719476736) : DoesH (CG G) 101 [.op 0 0 0, .d (.s s)] bldF [.d (.i .i64 (s.length : Int)), .d (.x .nilIface)] (bldN s) := by
  refine DoesH.mk (n := 19) Tryd.func101 rfl rfl rfl (Nat.le_of_ble_eq_true rfl) rfl ?_
  refine callh [(0, 0)] check88f ?_ ?_
  · ((repeat' constructor) <;> (first | refine hold ?_ | rfl) <;> first | with_reducible rfl | (congr 1 <;> omega) | (congr 1 <;> simp; done) | (simp; done) | exact encB_snoc _ _ | skip)
  refine app_ok (by rw [encB_len]; omega) ?_
  apply end_ok [(16, _)]
  ((repeat' constructor) <;> (first | refine hold ?_ | rfl) <;> first | with_reducible rfl | (congr 1 <;> omega) | (congr 1 <;> simp; done) | (simp; done) | exact encB_snoc _ _ | skip)

theorem write72 (l s : List UInt8) (h : l.length + s.length ≤ 68719476736) : DoesH (CG G) 101 [.op 0 0 0, .d (.s s)] (bldU l) [.d (.i .i64 (s.length : Int)), .d (.x .nilIface)] (bldN (l ++ s)) := by
  have hlen := encB_len l
  refine DoesH.mk (n := 19) Tryd.func101 rfl rfl rfl (Nat.le_of_ble_eq_true rfl) rfl ?_
  refine callh [(0, 0), (1, 1)] (check88 l) ?_ ?_
  · ((repeat' constructor) <;> (first | refine hold ?_ | rfl) <;> first | with_reducible rfl | (congr 1 <;> omega) | (congr 1 <;> simp; done) | (simp; done) | exact encB_snoc _ _ | skip)
  refine app_ok (by rw [encB_len, encB_len]; omega) ?_
  apply end_ok [(16, _)]
  ((repeat' constructor) <;> (first | refine hold ?_ | rfl) <;> first | with_reducible rfl | (congr 1 <;> omega) | (congr 1 <;> simp; done) | (simp; done) | exact encB_snoc _ _ | skip)
  exact (List.map_append ..).symm

theorem string73f : DoesH (CG G) 103 [.op 0 0 0] bldF [.d (.s [])] [] := by
  refine DoesH.mk (n := 14) Tryd.func103 rfl rfl rfl (Nat.le_of_ble_eq_true rfl) rfl ?_
  refine ⟨hold rfl, ?_⟩
  refine ⟨draw_ok (by kernel_rfl), ?_⟩
  refine end_ok [] ?_
  ((repeat' constructor) <;> (first | refine hold ?_ | rfl) <;> first | with_reducible rfl | (congr 1 <;> omega) | (congr 1 <;> simp; done) | (simp; done) | exact encB_snoc _ _ | skip)
theorem string73 (l : List UInt8) (h : l.length ≤ 68719476736) : DoesH (CG G) 103 [.op 0 0 0] (bldU l) [.d (.s l)] [] := by
  refine DoesH.mk (n := 14) Tryd.func103 rfl rfl rfl (Nat.le_of_ble_eq_true rfl) rfl ?_
  have hlen := encB_len l
  refine sd_both (fun h0 => ?_) (fun h0 => ?_)
  · refine bytes_is l rfl ?_
    refine ⟨hold ⟨fun e => h0 (by rw [e]; rfl), by rw [hlen], by omega⟩, ?_⟩
    refine ⟨draw_ok (by kernel_rfl), ?_⟩
    refine end_ok [] ?_
    ((repeat' constructor) <;> (first | refine hold ?_ | rfl) <;> first | with_reducible rfl | (congr 1 <;> omega) | (congr 1 <;> simp; done) | (simp; done) | exact encB_snoc _ _ | skip)
  · obtain rfl : l = [] := List.map_eq_nil_iff.1 h0
    refine ⟨hold rfl, ?_⟩
    refine ⟨draw_ok (by kernel_rfl), ?_⟩
    refine end_ok [] ?_
    ((repeat' constructor) <;> (first | refine hold ?_ | rfl) <;> first | with_reducible rfl | (congr 1 <;> omega) | (congr 1 <;> simp; done) | (simp; done) | exact encB_snoc _ _ | skip)
end Go.Proofs.YtiokdhklhnhfhaaDoor

namespace Go.Proofs.YtiokdhklhnhfhaaDoor
variable {G : List Go.Eng.Gl}
open Go.Eng
attribute [local irreducible] Hold
set_option maxRecDepth 100000

def textF (l : List Rec) : List UInt8 := (l.map lineF).flatten
theorem textF_succ (l : List Rec) (i : Nat) (h : i < l.length) : textF (l.take (i + 1)) = textF (l.take i) ++ lineF l[i] := by
  unfold textF
  rw [List.take_succ_eq_append_getElem h, List.map_append, List.flatten_append]
  simp only [List.map_cons, List.map_nil, List.flatten_cons, List.flatten_nil, List.append_nil]
theorem textF_le (l : List Rec) (i : Nat) : (textF (l.take i)).length ≤ (textF l).length := by
  have : textF l = textF (l.take i) ++ textF (l.drop i) := by
    unfold textF; rw [← List.flatten_append, ← List.map_append, List.take_append_drop]
  rw [this, List.length_append]; omega

/-- What a record must be so that its line is in reach. -/
structure RecOk (x : Rec) : Prop where
  h1 : I64 x.ser
  h2 : I64 x.exc
  h3 : I64 x.rea
  n1 : (jnum x.ser).length ≤ 32
  n2 : (jnum x.exc).length ≤ 32
  n3 : (jnum x.rea).length ≤ 32
  hf : x.fl.length ≤ 1048576
  hl : ∀ y, y ∈ x.fl → y.length ≤ 1048576
  hj : (joinF (wordsF x) [32]).length ≤ 137438953472

def t46s (l : List Rec) (x : Bool × Nat) : AS :=
  match x with
  | (true, i) => ⟨[(3, .op 17 0 0), (7, .d (recs l)), (8, .d (.i .i64 (l.length : Int))), (9, .d (.i .i64 (i : Int)))], [(17, some (.box [np, .nl 1] (some 141)))], 2⟩
  | (false, i) => ⟨[(3, .op 17 0 0), (7, .d (recs l)), (8, .d (.i .i64 (l.length : Int))), (9, .d (.i .i64 (i : Int)))], [(17, some (.box [.op 17 0 0, .os 18] (some 141))), (18, some (.buf 1 (encB (textF (l.take i))) (some 5)))], 2⟩

theorem text46 (cap ser : Int) (l : List Rec) (hl : l.length ≤ 68719476736) (hr : ∀ x, x ∈ l → RecOk x) (ht : (textF l).length ≤ 68719476736) : Does (CN G) 54 [repD cap ser l] [.s (textF l)] := by
  have hlen : (l.map recD).length = l.length := by simp
  refine Does.mk (n := 18) Tryd.func54 rfl rfl rfl (Nat.le_of_ble_eq_true rfl) ?_
  repeat refine seq_on ?_
  apply loop_inv (fun x : Bool × Nat => x.2 ≤ l.length ∧ (x.1 = true → x.2 = 0)) (t46s l) (fun x => l.length - x.2) (true, 0) ⟨Nat.zero_le _, fun _ => rfl⟩ [(17, _)]
  · ((repeat' constructor) <;> (first | refine hold ?_ | rfl) <;> first | with_reducible rfl | (congr 1 <;> omega) | (congr 1 <;> simp; done) | (simp; done) | exact encB_snoc _ _ | skip)
  rintro ⟨fr, i⟩ ⟨hi, hfr⟩
  simp only at hi hfr
  cases fr
  · repeat refine seq_on ?_
    refine cmp_dec (fun h => ?_) (fun h => ?_)
    · have hi' : i < l.length := by omega
      have hx := hr _ (List.getElem_mem hi')
      have hs := textF_succ l i hi'
      have hs2 := textF_le l (i + 1)
      rw [hs, List.length_append] at hs2
      repeat refine seq_on ?_
      refine Eng.get_at i rfl (x := recD l[i]) (by simp [hi']) ?_
      refine call_by (line44 l[i] hx.h1 hx.h2 hx.h3 hx.hf hx.hl hx.hj) ?_
      refine callh [(0, 17), (1, 18)] (write72 (textF (l.take i)) (lineF l[i]) (by omega)) ?_ ?_
      · ((repeat' constructor) <;> (first | refine hold ?_ | rfl) <;> first | with_reducible rfl | (congr 1 <;> omega) | (congr 1 <;> simp; done) | (simp; done) | exact encB_snoc _ _ | skip)
      repeat refine seq_on ?_
      refine ar ⟨by omega, by omega⟩ ?_
      apply again (false, i + 1) [(17, _), (18, _)] ⟨by simp only; omega, fun h => by cases h⟩ (by simp only; omega)
      simp only [t46s, hs]
      ((repeat' constructor) <;> (first | refine hold ?_ | rfl) <;> first | with_reducible rfl | (congr 1 <;> omega) | (congr 1 <;> simp; done) | (simp; done) | exact encB_snoc _ _ | skip)
    · obtain rfl : i = l.length := by omega
      repeat refine seq_on ?_
      refine callh [(0, 17), (1, 18)] (string73 (textF (l.take l.length)) (by rw [List.take_of_length_le (Nat.le_refl _)]; exact ht)) ?_ ?_
      · ((repeat' constructor) <;> (first | refine hold ?_ | rfl) <;> first | with_reducible rfl | (congr 1 <;> omega) | (congr 1 <;> simp; done) | (simp; done) | exact encB_snoc _ _ | skip)
      rw [List.take_of_length_le (Nat.le_refl _)]
      rfl
  · obtain rfl := hfr rfl
    repeat refine seq_on ?_
    refine cmp_dec (fun h => ?_) (fun h => ?_)
    · have hi' : 0 < l.length := by omega
      have hx := hr _ (List.getElem_mem hi')
      have hs := textF_succ l 0 hi'
      have hs2 := textF_le l (0 + 1)
      rw [hs, List.length_append] at hs2
      repeat refine seq_on ?_
      refine Eng.get_at 0 rfl (x := recD l[0]) (by simp [hi']) ?_
      refine call_by (line44 l[0] hx.h1 hx.h2 hx.h3 hx.hf hx.hl hx.hj) ?_
      refine callh [(0, 17)] (write72f (lineF l[0]) (by omega)) ?_ ?_
      · ((repeat' constructor) <;> (first | refine hold ?_ | rfl) <;> first | with_reducible rfl | (congr 1 <;> omega) | (congr 1 <;> simp; done) | (simp; done) | exact encB_snoc _ _ | skip)
      repeat refine seq_on ?_
      refine ar ⟨by omega, by omega⟩ ?_
      apply again (false, 0 + 1) [(17, _), (18, _)] ⟨by simp only; omega, fun h => by cases h⟩ (by simp only; omega)
      simp only [t46s, hs]
      ((repeat' constructor) <;> (first | refine hold ?_ | rfl) <;> first | with_reducible rfl | (congr 1 <;> omega) | (congr 1 <;> simp; done) | (simp; done) | exact encB_snoc _ _ | skip)
    · obtain rfl : l = [] := List.eq_nil_of_length_eq_zero (by omega)
      repeat refine seq_on ?_
      refine callh [(0, 17)] string73f ?_ ?_
      · ((repeat' constructor) <;> (first | refine hold ?_ | rfl) <;> first | with_reducible rfl | (congr 1 <;> omega) | (congr 1 <;> simp; done) | (simp; done) | exact encB_snoc _ _ | skip)
      rfl
end Go.Proofs.YtiokdhklhnhfhaaDoor

namespace Go.Proofs.YtiokdhklhnhfhaaDoor
variable {G : List Go.Eng.Gl}
open Go.Eng
attribute [local irreducible] Hold
set_option maxRecDepth 100000

def t47s (cap ser : Int) (l : List Rec) (i : Nat) : AS := ⟨[(1, .op 16 0 0), (3, .d (.s (textF (l.take i)))), (4, .d (.i .i64 (i : Int)))], [(16, some (.box [.d (.i .i64 cap), .d (.i .i64 ser), .d (recs l)]))], 2⟩

theorem text47 (cap ser : Int) (l : List Rec) (hl : l.length ≤ 68719476736) (hr : ∀ x, x ∈ l → RecOk x) (ht : (textF l).length ≤ 68719476736) : Does (CG G) 65 [repD cap ser l] [.s (textF l)] := by
  have hlen : (l.map recD).length = l.length := by simp
  refine Does.mk (n := 21) Tryd.func65 rfl rfl rfl (Nat.le_of_ble_eq_true rfl) ?_
  repeat refine seq_on ?_
  apply loop_inv (fun i => i ≤ l.length) (t47s cap ser l) (fun i => l.length - i) 0 (Nat.zero_le _) [(16, _)]
  · ((repeat' constructor) <;> (first | refine hold ?_ | rfl) <;> first | with_reducible rfl | (congr 1 <;> omega) | (congr 1 <;> simp; done) | (simp; done) | exact encB_snoc _ _ | skip)
  intro i hi
  repeat refine seq_on ?_
  refine cmp_dec (fun h => ?_) (fun h => ?_)
  · have hi' : i < l.length := by omega
    have hx := hr _ (List.getElem_mem hi')
    have hs := textF_succ l i hi'
    have hs2 := textF_le l (i + 1)
    rw [hs, List.length_append] at hs2
    repeat refine seq_on ?_
    refine Eng.get_at i rfl (x := recD l[i]) (by simp [hi']) ?_
    refine call_by (line45 l[i] hx.h1 hx.h2 hx.h3 hx.hf hx.hj hx.n1 hx.n2 hx.n3) ?_
    refine len_ok (by omega) ?_
    repeat refine seq_on ?_
    refine ar ⟨by omega, by omega⟩ ?_
    apply again (i + 1) [(16, _)] (by omega) (by omega)
    simp only [t47s, hs]
    ((repeat' constructor) <;> (first | refine hold ?_ | rfl) <;> first | with_reducible rfl | (congr 1 <;> omega) | (congr 1 <;> simp; done) | (simp; done) | exact encB_snoc _ _ | skip)
  · obtain rfl : i = l.length := by omega
    repeat refine seq_on ?_
    rw [List.take_of_length_le (Nat.le_refl _)]
    rfl

/-! #### As JSON -/

def kSer : List UInt8 := [115, 101, 114, 105, 97, 108]
def kExc : List UInt8 := [101, 120, 99, 104, 97, 110, 103, 101]
def kRea : List UInt8 := [114, 101, 97, 115, 111, 110]
def kSta : List UInt8 := [115, 116, 97, 116, 117, 115]
def kFie : List UInt8 := [102, 105, 101, 108, 100, 115]
def bTxt (b : Bool) : List UInt8 := if b then [116, 114, 117, 101] else [102, 97, 108, 115, 101]
def memP0 (x : Rec) : List (List UInt8 × List UInt8) := [(kSer, jnum x.ser), (kExc, jnum x.exc), (kRea, jnum x.rea)]
def memP (x : Rec) : List (List UInt8 × List UInt8) := memP0 x ++ if x.rea = 1 then [(kSta, bTxt x.st), (wBody, bTxt x.bo), (kFie, arrF (x.fl.map quoteF))] else []
def objR (x : Rec) : List UInt8 := objF (memP x)
def jsonF (l : List Rec) : List UInt8 := arrF (l.map objR) ++ [10]

structure JsOk (x : Rec) : Prop where
  hq : (joinF (x.fl.map quoteF) [44]).length ≤ 68719476736
  hp : ∀ p, p ∈ memP x → p.1.length ≤ 1099511627 ∧ p.2.length ≤ 140737488355328
  ho : (joinF ((memP x).map memF) [44]).length ≤ 68719476736

def o74s (x : Rec) (i : Nat) : AS :=
  ⟨[(3, .os 17), (4, .op 18 0 0), (5, .os 19), (27, .d (strs x.fl)), (28, .d (.i .i64 (x.fl.length : Int))), (29, .d (.i .i64 (i : Int)))],
   [(17, some (.buf 2 ((memP0 x).map pairD))), (18, some (.box [.d (.b x.st), .d (.b x.bo), .d (strs x.fl)])), (19, some (.buf 1 (((x.fl.take i).map quoteF).map .s)))], 2⟩
def e74s (x : Rec) : AS := ⟨[(3, .os 17)], [(17, some (.buf 2 ((memP x).map pairD)))], 2⟩

theorem obj74 (x : Rec) (hx : RecOk x) (hj : JsOk x) : Does (CN G) 104 [recD x] [.s (objR x)] := by
  refine Does.mk (n := 55) Tryd.func104 rfl rfl rfl (Nat.le_of_ble_eq_true rfl) ?_
  refine call_by (num28 _ hx.h1) ?_
  refine call_by (num28 _ hx.h2) ?_
  refine call_by (num28 _ hx.h3) ?_
  refine ⟨draw_ok (by kernel_rfl), ?_⟩
  apply seq_inv (fun _ : Unit => True) (fun _ => e74s x)
  · repeat refine seq_on ?_
    refine cmp_dec (fun h => ?_) (fun h => ?_)
    · have hlen : (x.fl.map D.s).length = x.fl.length := by simp
      have hfl := hx.hf
      repeat refine seq_on ?_
      apply loop_inv (fun i => i ≤ x.fl.length) (o74s x) (fun i => x.fl.length - i) 0 (Nat.zero_le _) [(17, _), (18, _), (19, _)]
      · ((repeat' constructor) <;> (first | refine hold ?_ | rfl) <;> first | with_reducible rfl | (congr 1 <;> omega) | (congr 1 <;> simp; done) | (simp; done) | exact encB_snoc _ _ | skip)
      intro i hi
      repeat refine seq_on ?_
      refine cmp_dec (fun h' => ?_) (fun h' => ?_)
      · have hi' : i < x.fl.length := by omega
        have hy := hx.hl _ (List.getElem_mem hi')
        repeat refine seq_on ?_
        refine Eng.get_at i rfl (x := .s x.fl[i]) (by simp [hi']) ?_
        repeat refine seq_on ?_
        refine call_by (quote34 x.fl[i] (by omega)) ?_
        refine app_ok (by simp; omega) ?_
        repeat refine seq_on ?_
        refine ar ⟨by omega, by omega⟩ ?_
        apply again (i + 1) [(17, _), (18, _), (19, _)] (by omega) (by omega)
        ((repeat' constructor) <;> (first | refine hold ?_ | rfl) <;> first | with_reducible rfl | (congr 1 <;> omega) | (congr 1 <;> simp; done) | (simp; done) | exact encB_snoc _ _ | skip)
        rw [List.take_succ_eq_append_getElem hi', List.map_append, List.map_append]; rfl
      · obtain rfl : i = x.fl.length := by omega
        repeat refine seq_on ?_
        refine call_by (truth89 x.st) ?_
        refine call_by (truth89 x.bo) ?_
        rw [List.take_of_length_le (Nat.le_refl _)]
        refine call_by (arr32 (x.fl.map quoteF) (by simp; omega) (by have := hj.hq; omega)) ?_
        refine app_ok (by simp [memP0]) ?_
        refine ⟨draw_ok (by kernel_rfl), ?_⟩
        repeat refine seq_on ?_
        apply cut_inv () [(17, _)] trivial
        simp only [e74s, memP, if_pos h, memP0]
        ((repeat' constructor) <;> (first | refine hold ?_ | rfl) <;> first | with_reducible rfl | (congr 1 <;> omega) | (congr 1 <;> simp; done) | (simp; done) | exact encB_snoc _ _ | skip)
    · apply cut_inv () [(17, _)] trivial
      simp only [e74s, memP, if_neg h, memP0, List.append_nil]
      ((repeat' constructor) <;> (first | refine hold ?_ | rfl) <;> first | with_reducible rfl | (congr 1 <;> omega) | (congr 1 <;> simp; done) | (simp; done) | exact encB_snoc _ _ | skip)
  rintro ⟨⟩ _
  repeat refine seq_on ?_
  refine call_by (obj30 (memP x) (by unfold memP memP0; split <;> simp) hj.hp (by have := hj.ho; omega)) ?_
  rfl

def j48s (l : List Rec) (i : Nat) : AS := ⟨[(3, .os 16), (7, .d (recs l)), (8, .d (.i .i64 (l.length : Int))), (9, .d (.i .i64 (i : Int)))], [(16, some (.buf 1 (((l.take i).map objR).map .s)))], 2⟩

theorem json48 (cap ser : Int) (l : List Rec) (hl : l.length < 68719476736) (hr : ∀ x, x ∈ l → RecOk x ∧ JsOk x) (ht : (joinF (l.map objR) [44]).length ≤ 68719476736) : Does (CN G) 55 [repD cap ser l] [.s (jsonF l)] := by
  have hlen : (l.map recD).length = l.length := by simp
  refine Does.mk (n := 22) Tryd.func55 rfl rfl rfl (Nat.le_of_ble_eq_true rfl) ?_
  repeat refine seq_on ?_
  apply loop_inv (fun i => i ≤ l.length) (j48s l) (fun i => l.length - i) 0 (Nat.zero_le _) [(16, _)]
  · ((repeat' constructor) <;> (first | refine hold ?_ | rfl) <;> first | with_reducible rfl | (congr 1 <;> omega) | (congr 1 <;> simp; done) | (simp; done) | exact encB_snoc _ _ | skip)
  intro i hi
  repeat refine seq_on ?_
  refine cmp_dec (fun h => ?_) (fun h => ?_)
  · have hi' : i < l.length := by omega
    have hx := hr _ (List.getElem_mem hi')
    repeat refine seq_on ?_
    refine Eng.get_at i rfl (x := recD l[i]) (by simp [hi']) ?_
    refine call_by (obj74 l[i] hx.1 hx.2) ?_
    refine app_ok (by simp; omega) ?_
    repeat refine seq_on ?_
    refine ar ⟨by omega, by omega⟩ ?_
    apply again (i + 1) [(16, _)] (by omega) (by omega)
    ((repeat' constructor) <;> (first | refine hold ?_ | rfl) <;> first | with_reducible rfl | (congr 1 <;> omega) | (congr 1 <;> simp; done) | (simp; done) | exact encB_snoc _ _ | skip)
    rw [List.take_succ_eq_append_getElem hi', List.map_append, List.map_append]; rfl
  · obtain rfl : i = l.length := by omega
    repeat refine seq_on ?_
    rw [List.take_of_length_le (Nat.le_refl _)]
    refine call_by (arr32 (l.map objR) (by simp; omega) (by omega)) ?_
    refine len_ok (by show (([91] ++ joinF (l.map objR) [44]) ++ [93]).length + 1 ≤ _; simp only [List.length_append, List.length_cons, List.length_nil]; omega) ?_
    rfl
end Go.Proofs.YtiokdhklhnhfhaaDoor

namespace Go.Proofs.YtiokdhklhnhfhaaDoor
variable {G : List Go.Eng.Gl}
open Go.Eng
attribute [local irreducible] Hold
set_option maxRecDepth 100000

def rec0 : Rec := ⟨1, 7, 6, false, false, []⟩
theorem i64_lit {n : Int} (h : decide (-9223372036854775808 ≤ n ∧ n ≤ 9223372036854775807) = true) : I64 n := by
  show -9223372036854775808 ≤ n ∧ n ≤ 9223372036854775807
  exact of_decide_eq_true h
theorem words_rec0 : wordsF rec0 = words0 rec0 := by unfold wordsF; rw [if_neg (by decide)]
theorem line_rec0 : lineF rec0 = [49, 32, 55, 32, 54, 10] := by decide +kernel
theorem text_rec0 : textF [rec0] = [49, 32, 55, 32, 54, 10] := by simp [textF, line_rec0]
theorem mem_rec0 : memP rec0 = memP0 rec0 := by unfold memP; rw [if_neg (by decide), List.append_nil]
theorem json_rec0 : jsonF [rec0] = [91, 123, 34, 115, 101, 114, 105, 97, 108, 34, 58, 49, 44, 34, 101, 120, 99, 104, 97, 110, 103, 101, 34, 58, 55, 44, 34, 114, 101, 97, 115, 111, 110, 34, 58, 54, 125, 93, 10] := by decide +kernel
theorem ok_rec0 : RecOk rec0 := ⟨i64_lit (by decide), i64_lit (by decide), i64_lit (by decide), by decide +kernel, by decide +kernel, by decide +kernel, by decide +kernel, (fun y hy => by cases hy), by decide +kernel⟩
theorem js_rec0 : JsOk rec0 := ⟨by decide +kernel, by decide +kernel, by decide +kernel⟩

def f15s (cap : Int) (ser : Int) (k : Nat) (l : List Rec) : AS := ⟨[(0, .d (.i .i64 (k : Int))), (5, .op 16 0 0)], [(16, some (.box [.d (.i .i64 cap), .d (.i .i64 ser), .d (recs l)]))], 2⟩

theorem lastF_len (cap : Int) (l : List Rec) : (lastF cap l).length ≤ l.length := by unfold lastF; simp
theorem lastF_mem (cap : Int) (l : List Rec) (x : Rec) (h : x ∈ lastF cap l) : x ∈ l := List.mem_of_mem_drop h

end Go.Proofs.YtiokdhklhnhfhaaDoor

