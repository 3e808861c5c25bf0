/- Own text: what the printed functional forms of answers.signs, rises, right, state, stateOf and of backfilllaw09.same come to. -/
import Derived.Test.YtokioddaonknpaaDoorP3
import Derived.Test.YtokioddaonknpaaDoorB1
import Derived.Test.YtokioddaonknpaaDoorB2
namespace Go.Proofs.YtokioddaonknpaaDoor.A
open Go.RowKit Go.Lib Go.Proofs.YtokioddaonknpaaDoorW.PrintWords Go.Proofs.YtokioddaonknpaaDoor.PAnswersReads
set_option linter.unusedSimpArgs false

theorem w64 {i n : Nat} (h : i < n) (hn : n ≤ 4611686018427387904) : wrap64 ((i : Int) + 1) = ((i + 1 : Nat) : Int) := by unfold wrap64; omega
theorem rd_get {l : List Int} {i : Nat} (h : i < l.length) : rd l (i : Int) = l[i] := by
  unfold rd
  rw [Int.toNat_natCast, List.getD_eq_getElem?_getD, List.getElem?_eq_getElem h]
  rfl
theorem toList_data (s : ByteArray) : s.toList = s.data.toList := by
  first | exact ByteArray.toList_eq s | simp | rfl
theorem nonneg_cons (x : Int) (l : List Int) : nonneg (x :: l) ↔ 0 ≤ x ∧ nonneg l := by simp [nonneg]
theorem nonneg_nil : nonneg [] := fun n hn => by cases hn

theorem signs_loop (l : List Int) (hl : l.length ≤ 4611686018427387904) (d : Nat) : ∀ (k i : Nat), l.length - i = d → i ≤ l.length → d < k → answers_signs.l0 k l (l.length : Int) (i : Int) = some (decide (nonneg (l.drop i))) := by
  induction d with
  | zero =>
    intro k i h1 h2 h3
    obtain ⟨k, rfl⟩ : ∃ m, k = m + 1 := ⟨k - 1, by omega⟩
    rw [answers_signs.l0, if_neg (by omega), List.drop_of_length_le (by omega), decide_eq_true nonneg_nil]
  | succ d ih =>
    intro k i h1 h2 h3
    obtain ⟨k, rfl⟩ : ∃ m, k = m + 1 := ⟨k - 1, by omega⟩
    have hi : i < l.length := by omega
    rw [answers_signs.l0, if_pos (by omega), if_pos (by omega), if_pos (by omega), rd_get hi, List.drop_eq_getElem_cons hi, w64 hi hl]
    by_cases h : l[i] < 0
    · rw [if_pos h, decide_eq_false (fun hn => by have := ((nonneg_cons _ _).1 hn).1; omega)]
    · rw [if_neg h, ih k (i + 1) (by omega) (by omega) (by omega)]
      congr 1
      rw [decide_eq_decide, nonneg_cons]
      exact ⟨fun h' => ⟨by omega, h'⟩, fun h' => h'.2⟩
theorem signs_f (l : List Int) (hl : l.length ≤ 4611686018427387904) (k : Nat) (hk : l.length < k) : answers_signs.f k l = some (decide (nonneg l)) := signs_loop l hl l.length k 0 (by omega) (by omega) hk
theorem rises_loop (l : List Int) (hl : l.length ≤ 4611686018427387904) (d : Nat) : ∀ (k i : Nat) (x : Int), l.length - i = d → i ≤ l.length → d < k → answers_rises.l0 k x l (l.length : Int) (i : Int) = some (decide (risesP x (l.drop i))) := by
  induction d with
  | zero =>
    intro k i x h1 h2 h3
    obtain ⟨k, rfl⟩ : ∃ m, k = m + 1 := ⟨k - 1, by omega⟩
    rw [answers_rises.l0, if_neg (by omega), List.drop_of_length_le (by omega), decide_eq_true (p := risesP x []) trivial]
  | succ d ih =>
    intro k i x h1 h2 h3
    obtain ⟨k, rfl⟩ : ∃ m, k = m + 1 := ⟨k - 1, by omega⟩
    have hi : i < l.length := by omega
    rw [answers_rises.l0, if_pos (by omega), if_pos (by omega), if_pos (by omega), rd_get hi, List.drop_eq_getElem_cons hi, w64 hi hl]
    by_cases h : l[i] ≤ x
    · rw [if_pos h, decide_eq_false (fun hn => by have := hn.1; omega)]
    · rw [if_neg h, ih k (i + 1) _ (by omega) (by omega) (by omega)]
      congr 1
      rw [decide_eq_decide]
      exact ⟨fun h' => ⟨by omega, h'⟩, fun h' => h'.2⟩
theorem rises_f (l : List Int) (hl : l.length ≤ 4611686018427387904) (k : Nat) (hk : l.length < k) : answers_rises.f k l = some (decide (risesP (-1) l)) := rises_loop l hl l.length k 0 (-1) (by omega) (by omega) hk

theorem signs4 (a b c d : Int) (k : Nat) (hk : 4 < k) : answers_signs.f k [a, b, c, d] = some (decide (0 ≤ a ∧ 0 ≤ b ∧ 0 ≤ c ∧ 0 ≤ d)) := by
  rw [signs_f _ (by simp) k (by simpa using hk)]
  congr 1
  rw [decide_eq_decide]
  simp only [nonneg_cons]
  exact ⟨fun h => ⟨h.1, h.2.1, h.2.2.1, h.2.2.2.1⟩, fun h => ⟨h.1, h.2.1, h.2.2.1, h.2.2.2, nonneg_nil⟩⟩
theorem len0 (l : List Int) : ((l.length : Int) = 0) ↔ l = [] := by
  rw [← List.length_eq_zero_iff]; omega
theorem dec_eq {p q : Prop} [Decidable p] [Decidable q] (h : p ↔ q) : some (decide p) = some (decide q) := by
  rw [decide_eq_decide.2 h]
theorem dec_true {q : Prop} [Decidable q] (h : q) : some true = some (decide q) := by rw [decide_eq_true h]
theorem dec_false {q : Prop} [Decidable q] (h : ¬ q) : some false = some (decide q) := by rw [decide_eq_false h]
theorem right_f (e : Ev) (hl : e.list.length ≤ 4611686018427387904) (k : Nat) (hk : e.list.length + 6 < k) : answers_right.f k e.kind e.job e.tm e.nodes e.limit e.list = some (decide (okP e)) := by
  obtain ⟨k, rfl⟩ : ∃ m, k = m + 1 := ⟨k - 1, by omega⟩
  obtain ⟨kd, jb, tm, nd, lm, ls⟩ := e
  dsimp only at hk hl ⊢
  have hs := signs_f ls hl k (by omega)
  have hr := rises_f ls hl k (by omega)
  have h4 := signs4 jb tm nd lm k (by omega)
  have hb : (if nd = 0 then answers_right.j0 (k + 1) (lm == 0) kd jb tm nd lm ls else answers_right.j0 (k + 1) false kd jb tm nd lm ls) = answers_right.j0 (k + 1) (decide (nd = 0 ∧ lm = 0)) kd jb tm nd lm ls := by
    by_cases h : nd = 0
    · rw [if_pos h]
      congr 1
      by_cases h' : lm = 0 <;> simp [h, h']
    · rw [if_neg h, decide_eq_false (fun h' => h h'.1)]
  unfold answers_right.f
  rw [hb]
  simp only [answers_right.j0, hs, hr, h4, Option.bind_some, len0, decide_eq_true_eq]
  have hq : okP ⟨kd, jb, tm, nd, lm, ls⟩ ↔ ((if kd = 1 then ls = [] else if kd = 2 then (nd = 0 ∧ lm = 0) ∧ risesP (-1) ls else if kd = 3 then (3 ≤ nd ∧ nd ≤ 6) ∧ lm = 0 ∧ ls = []
      else if kd = 4 then (nd = 0 ∧ lm = 0) ∧ ls = [] else if kd = 5 then (nd = 0 ∧ lm = 0) ∧ jb = 0 ∧ nonneg ls else if kd = 6 ∨ kd = 7 then (nd = 0 ∧ lm = 0) ∧ jb = 0 ∧ ls = [] else False) ∧ 0 ≤ jb ∧ 0 ≤ tm ∧ 0 ≤ nd ∧ 0 ≤ lm) := Iff.rfl
  by_cases h1 : kd = 1
  · rw [if_pos h1] at hq ⊢
    by_cases h2 : ls = []
    · rw [if_pos h2]; exact dec_eq (Iff.trans ⟨fun h => ⟨h2, h⟩, fun h => h.2⟩ hq.symm)
    · rw [if_neg h2]; exact dec_false (fun h0 => have h := hq.1 h0; h2 h.1)
  rw [if_neg h1] at hq ⊢
  by_cases h2 : kd = 2
  · rw [if_pos h2] at hq ⊢
    by_cases h3 : nd = 0 ∧ lm = 0
    · rw [if_pos h3]
      by_cases h4 : risesP (-1) ls
      · rw [if_pos h4]; exact dec_eq (Iff.trans ⟨fun h => ⟨⟨h3, h4⟩, h⟩, fun h => h.2⟩ hq.symm)
      · rw [if_neg h4]; exact dec_false (fun h0 => have h := hq.1 h0; h4 h.1.2)
    · rw [if_neg h3]; exact dec_false (fun h0 => have h := hq.1 h0; h3 h.1.1)
  rw [if_neg h2] at hq ⊢
  by_cases h3 : kd = 3
  · rw [if_pos h3] at hq ⊢
    by_cases c1 : nd ≥ 3
    · rw [if_pos c1]
      by_cases c2 : nd ≤ 6
      · rw [if_pos c2]
        by_cases c3 : lm = 0
        · rw [if_pos c3]
          by_cases c4 : ls = []
          · rw [if_pos c4]; exact dec_eq (Iff.trans ⟨fun h => ⟨⟨⟨c1, c2⟩, c3, c4⟩, h⟩, fun h => h.2⟩ hq.symm)
          · rw [if_neg c4]; exact dec_false (fun h0 => have h := hq.1 h0; c4 h.1.2.2)
        · rw [if_neg c3]; exact dec_false (fun h0 => have h := hq.1 h0; c3 h.1.2.1)
      · rw [if_neg c2]; exact dec_false (fun h0 => have h := hq.1 h0; c2 h.1.1.2)
    · rw [if_neg c1]; exact dec_false (fun h0 => have h := hq.1 h0; c1 h.1.1.1)
  rw [if_neg h3] at hq ⊢
  by_cases h4 : kd = 4
  · rw [if_pos h4] at hq ⊢
    by_cases c3 : nd = 0 ∧ lm = 0
    · rw [if_pos c3]
      by_cases c4 : ls = []
      · rw [if_pos c4]; exact dec_eq (Iff.trans ⟨fun h => ⟨⟨c3, c4⟩, h⟩, fun h => h.2⟩ hq.symm)
      · rw [if_neg c4]; exact dec_false (fun h0 => have h := hq.1 h0; c4 h.1.2)
    · rw [if_neg c3]; exact dec_false (fun h0 => have h := hq.1 h0; c3 h.1.1)
  rw [if_neg h4] at hq ⊢
  by_cases h5 : kd = 5
  · rw [if_pos h5] at hq ⊢
    by_cases c3 : nd = 0 ∧ lm = 0
    · rw [if_pos c3]
      by_cases c4 : jb = 0
      · rw [if_pos c4]
        by_cases c5 : nonneg ls
        · rw [if_pos c5]; exact dec_eq (Iff.trans ⟨fun h => ⟨⟨c3, c4, c5⟩, h⟩, fun h => h.2⟩ hq.symm)
        · rw [if_neg c5]; exact dec_false (fun h0 => have h := hq.1 h0; c5 h.1.2.2)
      · rw [if_neg c4]; exact dec_false (fun h0 => have h := hq.1 h0; c4 h.1.2.1)
    · rw [if_neg c3]; exact dec_false (fun h0 => have h := hq.1 h0; c3 h.1.1)
  rw [if_neg h5] at hq ⊢
  by_cases h6 : kd = 6
  · rw [if_pos h6]; rw [if_pos (Or.inl h6)] at hq
    by_cases c3 : nd = 0 ∧ lm = 0
    · rw [if_pos c3]
      by_cases c4 : jb = 0
      · rw [if_pos c4]
        by_cases c5 : ls = []
        · rw [if_pos c5]; exact dec_eq (Iff.trans ⟨fun h => ⟨⟨c3, c4, c5⟩, h⟩, fun h => h.2⟩ hq.symm)
        · rw [if_neg c5]; exact dec_false (fun h0 => have h := hq.1 h0; c5 h.1.2.2)
      · rw [if_neg c4]; exact dec_false (fun h0 => have h := hq.1 h0; c4 h.1.2.1)
    · rw [if_neg c3]; exact dec_false (fun h0 => have h := hq.1 h0; c3 h.1.1)
  rw [if_neg h6]
  by_cases h7 : kd = 7
  · rw [if_pos h7]; rw [if_pos (Or.inr h7)] at hq
    by_cases c3 : nd = 0 ∧ lm = 0
    · rw [if_pos c3]
      by_cases c4 : jb = 0
      · rw [if_pos c4]
        by_cases c5 : ls = []
        · rw [if_pos c5]; exact dec_eq (Iff.trans ⟨fun h => ⟨⟨c3, c4, c5⟩, h⟩, fun h => h.2⟩ hq.symm)
        · rw [if_neg c5]; exact dec_false (fun h0 => have h := hq.1 h0; c5 h.1.2.2)
      · rw [if_neg c4]; exact dec_false (fun h0 => have h := hq.1 h0; c4 h.1.2.1)
    · rw [if_neg c3]; exact dec_false (fun h0 => have h := hq.1 h0; c3 h.1.1)
  rw [if_neg h7]; rw [if_neg (by omega)] at hq
  exact dec_false (fun h0 => have h := hq.1 h0; h.1)

theorem state_f (n : Int) : answers_state.f n = some (ofL (stateL n)) := by
  unfold answers_state.f stateL ofL
  repeat' split
  all_goals rfl
theorem rstate_f (n : Int) : backfillref09_state.f n = some (ofL (stateL n)) := by
  unfold backfillref09_state.f stateL ofL
  repeat' split
  all_goals rfl
theorem ofL_toList (x : List UInt8) : (ofL x).toList = x := by rw [toList_data, data_ofL]
theorem stateOf_f (a : ByteArray) : answers_stateOf.f 8 a = some (stateN a.data.toList) := by
  unfold answers_stateOf.f
  have w1 : wrap64 (1 + 1) = 2 := by unfold wrap64; omega
  have w2 : wrap64 (2 + 1) = 3 := by unfold wrap64; omega
  have w3 : wrap64 (3 + 1) = 4 := by unfold wrap64; omega
  have w4 : wrap64 (4 + 1) = 5 := by unfold wrap64; omega
  have w5 : wrap64 (5 + 1) = 6 := by unfold wrap64; omega
  have w6 : wrap64 (6 + 1) = 7 := by unfold wrap64; omega
  simp only [answers_stateOf.l0, state_f, Option.bind_some, data_ofL, toList_data, w1, w2, w3, w4, w5, w6]
  unfold stateN
  rw [if_pos (show (1 : Int) ≤ 6 by omega), if_pos (show (2 : Int) ≤ 6 by omega), if_pos (show (3 : Int) ≤ 6 by omega), if_pos (show (4 : Int) ≤ 6 by omega), if_pos (show (5 : Int) ≤ 6 by omega), if_pos (show (6 : Int) ≤ 6 by omega), if_neg (show ¬ (7 : Int) ≤ 6 by omega)]
  repeat' split
  all_goals first | rfl | contradiction

theorem eq_drop_loop (l0 l1 : List Int) (i : Nat) (h0 : i < l0.length) (h1 : i < l1.length) : l0.drop i = l1.drop i ↔ l0[i] = l1[i] ∧ l0.drop (i + 1) = l1.drop (i + 1) := by
  rw [List.drop_eq_getElem_cons h0, List.drop_eq_getElem_cons h1, List.cons.injEq]
theorem lsame_loop (a b : Ev) (hl : a.list.length ≤ 4611686018427387904) (he : a.list.length = b.list.length) (d : Nat) : ∀ (k i : Nat), a.list.length - i = d → i ≤ a.list.length → d < k → backfilllaw09_same.l0 k (a.list.length : Int) (i : Int) a.kind a.job a.tm a.nodes a.limit a.list b.kind b.job b.tm b.nodes b.limit b.list = some (decide (a.list.drop i = b.list.drop i)) := by
  induction d with
  | zero =>
    intro k i h1 h2 h3
    obtain ⟨k, rfl⟩ : ∃ m, k = m + 1 := ⟨k - 1, by omega⟩
    rw [backfilllaw09_same.l0, if_neg (by omega), List.drop_of_length_le (by omega), List.drop_of_length_le (by omega), decide_eq_true rfl]
  | succ d ih =>
    intro k i h1 h2 h3
    obtain ⟨k, rfl⟩ : ∃ m, k = m + 1 := ⟨k - 1, by omega⟩
    have hi : i < a.list.length := by omega
    have hi' : i < b.list.length := by omega
    rw [backfilllaw09_same.l0, if_pos (by omega), if_pos (by omega), if_pos (by omega), if_pos (by omega), rd_get hi, rd_get hi', w64 hi hl]
    by_cases h : a.list[i] = b.list[i]
    · rw [if_pos h, ih k (i + 1) (by omega) (by omega) (by omega)]
      exact dec_eq ⟨fun h' => (eq_drop_loop _ _ i hi hi').2 ⟨h, h'⟩, fun h' => ((eq_drop_loop _ _ i hi hi').1 h').2⟩
    · rw [if_neg h]
      exact dec_false (fun h' => h ((eq_drop_loop _ _ i hi hi').1 h').1)
instance : DecidableEq Ev := fun a b => decidable_of_iff (a.kind = b.kind ∧ a.job = b.job ∧ a.tm = b.tm ∧ a.nodes = b.nodes ∧ a.limit = b.limit ∧ a.list = b.list) ⟨fun ⟨h1, h2, h3, h4, h5, h6⟩ => ev_eq h1 h2 h3 h4 h5 h6, fun h => by rw [h]; exact ⟨rfl, rfl, rfl, rfl, rfl, rfl⟩⟩
theorem lsame_f (a b : Ev) (hl : a.list.length ≤ 4611686018427387904) (k : Nat) (hk : a.list.length + 1 < k) : backfilllaw09_same.f k a.kind a.job a.tm a.nodes a.limit a.list b.kind b.job b.tm b.nodes b.limit b.list = some (decide (a = b)) := by
  obtain ⟨k, rfl⟩ : ∃ m, k = m + 1 := ⟨k - 1, by omega⟩
  unfold backfilllaw09_same.f
  have hj : ∀ x, backfilllaw09_same.j0 (k + 1) true a.kind a.job a.tm a.nodes a.limit a.list b.kind b.job b.tm b.nodes b.limit b.list = some x ↔ false = x := fun x => by simp [backfilllaw09_same.j0]
  have hF : backfilllaw09_same.j0 (k + 1) true a.kind a.job a.tm a.nodes a.limit a.list b.kind b.job b.tm b.nodes b.limit b.list = some false := by simp [backfilllaw09_same.j0]
  rw [hF]
  by_cases h1 : a.kind = b.kind
  · rw [if_pos h1]
    by_cases h2 : a.job = b.job
    · rw [if_pos h2]
      by_cases h3 : a.tm = b.tm
      · rw [if_pos h3]
        by_cases h4 : a.nodes = b.nodes
        · rw [if_pos h4]
          by_cases h5 : a.limit = b.limit
          · rw [if_pos h5]
            by_cases h6 : a.list.length = b.list.length
            · have hn : ((a.list.length : Int) != (b.list.length : Int)) = false := by rw [bne_eq_false_iff_eq]; omega
              rw [hn, backfilllaw09_same.j0, if_neg (by simp)]
              have := lsame_loop a b hl h6 a.list.length k 0 (by omega) (by omega) (by omega)
              rw [Int.natCast_zero] at this
              rw [this]
              exact dec_eq ⟨fun h => ev_eq h1 h2 h3 h4 h5 (by simpa using h), fun h => by rw [h]⟩
            · have hn : ((a.list.length : Int) != (b.list.length : Int)) = true := by rw [bne_iff_ne]; omega
              rw [hn, hF]
              exact dec_false (fun h => h6 (by rw [h]))
          · rw [if_neg h5]; exact dec_false (fun h => h5 (by rw [h]))
        · rw [if_neg h4]; exact dec_false (fun h => h4 (by rw [h]))
      · rw [if_neg h3]; exact dec_false (fun h => h3 (by rw [h]))
    · rw [if_neg h2]; exact dec_false (fun h => h2 (by rw [h]))
  · rw [if_neg h1]; exact dec_false (fun h => h1 (by rw [h]))
theorem rnum_loop (a b : List Int) (hl : a.length ≤ 4611686018427387904) (he : a.length = b.length) (d : Nat) : ∀ (k i : Nat), a.length - i = d → i ≤ a.length → d < k → backfillref09_numbers.l0 k a b (a.length : Int) (i : Int) = some (decide (a.drop i = b.drop i)) := by
  induction d with
  | zero =>
    intro k i h1 h2 h3
    obtain ⟨k, rfl⟩ : ∃ m, k = m + 1 := ⟨k - 1, by omega⟩
    rw [backfillref09_numbers.l0, if_neg (by omega), List.drop_of_length_le (by omega), List.drop_of_length_le (by omega), decide_eq_true rfl]
  | succ d ih =>
    intro k i h1 h2 h3
    obtain ⟨k, rfl⟩ : ∃ m, k = m + 1 := ⟨k - 1, by omega⟩
    have hi : i < a.length := by omega
    have hi' : i < b.length := by omega
    rw [backfillref09_numbers.l0, if_pos (by omega), if_pos (by omega), if_pos (by omega), if_pos (by omega), rd_get hi, rd_get hi', w64 hi hl]
    by_cases h : a[i] = b[i]
    · rw [if_pos h, ih k (i + 1) (by omega) (by omega) (by omega)]
      exact dec_eq ⟨fun h' => (eq_drop_loop _ _ i hi hi').2 ⟨h, h'⟩, fun h' => ((eq_drop_loop _ _ i hi hi').1 h').2⟩
    · rw [if_neg h]
      exact dec_false (fun h' => h ((eq_drop_loop _ _ i hi hi').1 h').1)
theorem rnum_f (a b : List Int) (hl : a.length ≤ 4611686018427387904) (k : Nat) (hk : a.length < k) : backfillref09_numbers.f k a b = some (decide (a = b)) := by
  unfold backfillref09_numbers.f
  by_cases h : (a.length : Int) = (b.length : Int)
  · have := rnum_loop a b hl (by omega) a.length k 0 (by omega) (by omega) hk
    rw [Int.natCast_zero] at this
    rw [if_pos h, this]
    simp
  · rw [if_neg h]
    exact dec_false (fun e => h (by rw [e]))
theorem rsame_f (a b : Ev) (hl : a.list.length ≤ 4611686018427387904) (k : Nat) (hk : a.list.length < k) : backfillref09_same.f k a.kind a.job a.tm a.nodes a.limit a.list b.kind b.job b.tm b.nodes b.limit b.list = some (decide (a = b)) := by
  unfold backfillref09_same.f
  rw [rnum_f a.list b.list hl k hk]
  by_cases h1 : a.kind = b.kind
  · rw [if_pos h1]
    by_cases h2 : a.job = b.job
    · rw [if_pos h2]
      by_cases h3 : a.tm = b.tm
      · rw [if_pos h3]
        by_cases h4 : a.nodes = b.nodes
        · rw [if_pos h4]
          by_cases h5 : a.limit = b.limit
          · rw [if_pos h5]
            exact dec_eq ⟨fun h => ev_eq h1 h2 h3 h4 h5 h, fun h => by rw [h]⟩
          · rw [if_neg h5]; exact dec_false (fun h => h5 (by rw [h]))
        · rw [if_neg h4]; exact dec_false (fun h => h4 (by rw [h]))
      · rw [if_neg h3]; exact dec_false (fun h => h3 (by rw [h]))
    · rw [if_neg h2]; exact dec_false (fun h => h2 (by rw [h]))
  · rw [if_neg h1]; exact dec_false (fun h => h1 (by rw [h]))

end Go.Proofs.YtokioddaonknpaaDoor.A
