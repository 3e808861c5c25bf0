/- Own text: what verbs.Valid and the reference's Valid come to: one plain function. -/
import Derived.Test.YtamimpomeigllaaDoorB1
import Derived.Test.YtamimpomeigllaaDoorPVerbsReadsx5
namespace Go.Proofs.YtamimpomeigllaaDoor.V
open Go.RowKit Go.Proofs.YtamimpomeigllaaDoorW.PrintWords Go.Proofs.YtamimpomeigllaaDoor.PVerbsReads

def OkC (x : Int) : Prop := 97 ≤ x ∧ x ≤ 122 ∨ 65 ≤ x ∧ x ≤ 90 ∨ 48 ≤ x ∧ x ≤ 57 ∨ x = 45 ∨ x = 95
instance (x : Int) : Decidable (OkC x) := by unfold OkC; infer_instance
def allOk (s : ByteArray) (i : Nat) : Bool := ((List.range (s.size - i)).all fun j => decide (OkC (bt s ((i + j : Nat) : Int))))
def validB (s : ByteArray) : Bool := decide (1 ≤ s.size) && decide (s.size ≤ 32) && allOk s 0

theorem allOk_end (s : ByteArray) (i : Nat) (h : s.size ≤ i) : allOk s i = true := by
  unfold allOk
  rw [show s.size - i = 0 from by omega]; rfl
theorem allOk_step (s : ByteArray) (i : Nat) (h : i < s.size) : allOk s i = (decide (OkC (bt s (i : Int))) && allOk s (i + 1)) := by
  unfold allOk
  rw [show s.size - i = (s.size - (i + 1)) + 1 from by omega, List.range_succ_eq_map]
  simp only [List.all_cons, Nat.add_zero, List.all_map]
  congr 1
  congr 1
  funext j
  simp only [Function.comp]
  rw [show i + j.succ = i + 1 + j from by omega]

theorem valid_round (k : Nat) (s : ByteArray) (n i : Int) (h0 : 0 ≤ i) (h1 : i < n) (h2 : i < s.size) :
    verbs_Valid.l0 (k + 1) s n i = if OkC (bt s i) then verbs_Valid.l0 k s n (wrap64 (i + 1)) else some false := by
  simp only [verbs_Valid.l0]
  rw [if_pos h1, if_pos h0, if_pos h2]
  generalize verbs_Valid.l0 k s n (wrap64 (i + 1)) = A
  generalize bt s i = c
  by_cases h : OkC c
  · rw [if_pos h]
    unfold OkC at h
    repeat' split
    all_goals first | rfl | (exfalso; omega)
  · rw [if_neg h]
    unfold OkC at h
    repeat' split
    all_goals first | rfl | (exfalso; omega)

theorem rvalid_round (k : Nat) (s : ByteArray) (i : Int) (h0 : 0 ≤ i) (h2 : i < s.size) :
    backfillref08_Valid.l0 (k + 1) s i = if OkC (bt s i) then backfillref08_Valid.l0 k s (wrap64 (i + 1)) else some false := by
  simp only [backfillref08_Valid.l0]
  rw [if_pos h2, if_pos h0]
  generalize backfillref08_Valid.l0 k s (wrap64 (i + 1)) = A
  generalize bt s i = c
  by_cases h : OkC c
  · rw [if_pos h]
    unfold OkC at h
    repeat' split
    all_goals first | rfl | (exfalso; omega)
  · rw [if_neg h]
    unfold OkC at h
    repeat' split
    all_goals first | rfl | (exfalso; omega)

theorem valid_loop (s : ByteArray) (hs : s.size ≤ 32) (d : Nat) : ∀ (k i : Nat), s.size - i = d → i ≤ s.size → d < k → verbs_Valid.l0 k s (s.size : Int) (i : Int) = some (allOk s i) := by
  induction d with
  | zero =>
    intro k i h1 h2 h3
    obtain ⟨k, rfl⟩ : ∃ m, k = m + 1 := ⟨k - 1, by omega⟩
    rw [allOk_end s i (by omega)]
    simp only [verbs_Valid.l0]
    rw [if_neg (by omega)]
  | succ d ih =>
    intro k i h1 h2 h3
    obtain ⟨k, rfl⟩ : ∃ m, k = m + 1 := ⟨k - 1, by omega⟩
    rw [valid_round k s _ _ (by omega) (by omega) (by omega), allOk_step s i (by omega)]
    by_cases h : OkC (bt s (i : Int))
    · rw [if_pos h, show wrap64 ((i : Int) + 1) = ((i + 1 : Nat) : Int) from by unfold wrap64; omega, ih k (i + 1) (by omega) (by omega) (by omega)]
      simp [h]
    · rw [if_neg h]
      simp [h]
theorem rvalid_loop (s : ByteArray) (hs : s.size ≤ 32) (d : Nat) : ∀ (k i : Nat), s.size - i = d → i ≤ s.size → d < k → backfillref08_Valid.l0 k s (i : Int) = some (allOk s i) := by
  induction d with
  | zero =>
    intro k i h1 h2 h3
    obtain ⟨k, rfl⟩ : ∃ m, k = m + 1 := ⟨k - 1, by omega⟩
    rw [allOk_end s i (by omega)]
    simp only [backfillref08_Valid.l0]
    rw [if_neg (by omega)]
  | succ d ih =>
    intro k i h1 h2 h3
    obtain ⟨k, rfl⟩ : ∃ m, k = m + 1 := ⟨k - 1, by omega⟩
    rw [rvalid_round k s _ (by omega) (by omega), allOk_step s i (by omega)]
    by_cases h : OkC (bt s (i : Int))
    · rw [if_pos h, show wrap64 ((i : Int) + 1) = ((i + 1 : Nat) : Int) from by unfold wrap64; omega, ih k (i + 1) (by omega) (by omega) (by omega)]
      simp [h]
    · rw [if_neg h]
      simp [h]

theorem valid_f (s : ByteArray) : verbs_Valid.f 40 s = some (validB s) := by
  unfold verbs_Valid.f validB
  by_cases h1 : s.size < 1
  · rw [if_pos (by omega)]
    simp [verbs_Valid.j0, show ¬ 1 ≤ s.size from by omega]
  · rw [if_neg (by omega)]
    by_cases h2 : s.size ≤ 32
    · rw [decide_eq_false (by omega)]
      simp only [verbs_Valid.j0, Bool.false_eq_true, if_false]
      have := valid_loop s h2 s.size 39 0 (by omega) (by omega) (by omega)
      rw [Int.natCast_zero] at this
      rw [this]
      simp [h2, show 1 ≤ s.size from by omega]
    · rw [decide_eq_true (by omega)]
      simp [verbs_Valid.j0, h2]
theorem rvalid_f (s : ByteArray) : backfillref08_Valid.f 40 s = some (validB s) := by
  unfold backfillref08_Valid.f validB
  by_cases h1 : s.size < 1
  · rw [if_pos (by omega)]
    simp [backfillref08_Valid.j0, show ¬ 1 ≤ s.size from by omega]
  · rw [if_neg (by omega)]
    by_cases h2 : s.size ≤ 32
    · rw [decide_eq_false (by omega)]
      simp only [backfillref08_Valid.j0, Bool.false_eq_true, if_false]
      have := rvalid_loop s h2 s.size 39 0 (by omega) (by omega) (by omega)
      rw [Int.natCast_zero] at this
      rw [this]
      simp [h2, show 1 ≤ s.size from by omega]
    · rw [decide_eq_true (by omega)]
      simp [backfillref08_Valid.j0, h2]

theorem valid_any (s : ByteArray) (w : World) : Calls Tryd.prog 8 #[.string s] w fun e w' => e = .returned (.bool (validB s)) ∧ Drawn0 w w' :=
  verbs_Valid.calls 40 s _ w (valid_f s)
theorem rvalid_any (s : ByteArray) (w : World) : Calls Tryd.prog 9 #[.string s] w fun e w' => e = .returned (.bool (validB s)) ∧ Drawn0 w w' :=
  backfillref08_Valid.calls 40 s _ w (rvalid_f s)

end Go.Proofs.YtamimpomeigllaaDoor.V
