/- Own text: what the reference's digits and number come to; its small functions. -/
import Derived.Test.YtamimpomeigllaaDoorC1
namespace Go.Proofs.YtamimpomeigllaaDoor.V
open Go.RowKit Go.Proofs.YtamimpomeigllaaDoorW.PrintWords Go.Lib Go.Proofs.YtamimpomeigllaaDoor.PVerbsReads

theorem bt_get (s : ByteArray) (i : Nat) (c : UInt8) (h : s.data.toList[i]? = some c) : bt s (i : Int) = (c.toNat : Int) := by
  obtain ⟨hl, e⟩ := List.getElem?_eq_some_iff.1 h
  have hi : i < s.size := by rw [← data_length]; exact hl
  have := (bt_at s (i : Int) (by simpa using hi)).symm
  rw [this, ← e]
  simp only [Int.toNat_natCast]
  rfl

def numRes (o : Option Nat) : Int × Bool := match o with
  | some v => ((v : Int), true)
  | none => (0, false)

theorem num_big (a d : Nat) (_hd : d ≤ 9) (h : 9223372036854775808 ≤ a * 10 + d) : (a : Int) > (9223372036854775807 - (d : Int)) / 10 := by omega
theorem num_small (a d : Nat) (_hd : d ≤ 9) (h : ¬ 9223372036854775808 ≤ a * 10 + d) : ¬ (a : Int) > (9223372036854775807 - (d : Int)) / 10 := by omega
theorem num_wrap (a d : Nat) (h : ¬ 9223372036854775808 ≤ a * 10 + d) : wrap64 (wrap64 (10 * (a : Int)) + (d : Int)) = ((a * 10 + d : Nat) : Int) := by
  have h1 : wrap64 (10 * (a : Int)) = 10 * (a : Int) := by unfold wrap64; omega
  rw [h1]
  unfold wrap64; omega
theorem number_loop (s : ByteArray) (hs : s.size ≤ 19) (d : Nat) : ∀ (k i acc : Nat), s.size - i = d → i ≤ s.size → 2 * d < k → acc < 9223372036854775808 →
    backfillref08_number.l0 k s (acc : Int) (i : Int) = some (numRes (numR acc (s.data.toList.drop i))) := by
  induction d with
  | zero =>
    intro k i acc h1 h2 h3 h4
    obtain ⟨k, rfl⟩ : ∃ m, k = m + 1 := ⟨k - 1, by omega⟩
    simp only [backfillref08_number.l0]
    rw [if_neg (by omega), List.drop_of_length_le (by rw [data_length]; omega)]
    rfl
  | succ d ih =>
    intro k i acc h1 h2 h3 h4
    obtain ⟨k, rfl⟩ : ∃ m, k = m + 2 := ⟨k - 2, by omega⟩
    have hl : i < s.data.toList.length := by rw [data_length]; omega
    rw [List.drop_eq_getElem_cons hl]
    obtain ⟨c, hc⟩ : ∃ c, c = s.data.toList[i] := ⟨_, rfl⟩
    have hb := bt_get s i c (by rw [hc]; exact List.getElem?_eq_getElem hl)
    rw [← hc]
    have hc8 := c.toNat_lt
    simp only [backfillref08_number.l0, numR, hb]
    rw [if_pos (by omega), if_pos (by omega)]
    by_cases hlo : (c.toNat : Int) < 48
    · rw [if_pos hlo, if_neg (by omega)]
      simp only [backfillref08_number.j2, if_true]
      rfl
    · rw [if_neg hlo]
      by_cases hhi : (c.toNat : Int) > 57
      · rw [decide_eq_true hhi, if_neg (by omega)]
        simp only [backfillref08_number.j2, if_true]
        rfl
      · rw [decide_eq_false hhi, if_pos (by omega)]
        simp only [backfillref08_number.j2, Bool.false_eq_true, if_false, hb]
        rw [if_pos (by omega), if_pos (by omega)]
        obtain ⟨dd, hdd⟩ : ∃ dd : Nat, c.toNat = 48 + dd := ⟨c.toNat - 48, by omega⟩
        rw [hdd, show 48 + dd - 48 = dd from by omega, show (((48 + dd : Nat) : Int) - 48) % 256 = (dd : Int) from by omega]
        by_cases ho : 9223372036854775808 ≤ acc * 10 + dd
        · rw [if_pos ho, if_pos (num_big acc dd (by omega) ho)]
          rfl
        · rw [if_neg ho, if_neg (num_small acc dd (by omega) ho), num_wrap acc dd ho, show wrap64 ((i : Int) + 1) = ((i + 1 : Nat) : Int) from by unfold wrap64; omega]
          exact ih k (i + 1) _ (by omega) (by omega) (by omega) (by omega)

theorem number_f (s : ByteArray) : backfillref08_number.f 60 s = some (if numB s = true then (atoiV s, true) else (0, false)) := by
  have hlen := data_length s
  have hnot : ¬ Canon s.data.toList → numB s = false := fun h => by
    cases hb : numB s with
    | false => rfl
    | true => exact absurd ((numB_iff s).2 hb).1 h
  unfold backfillref08_number.f
  by_cases h1 : (s.size : Int) < 1
  · rw [if_pos h1, hnot (fun h => by have := h.1; omega)]
    simp [backfillref08_number.j0]
  · rw [if_neg h1]
    by_cases h2 : (s.size : Int) > 19
    · rw [if_pos h2, hnot (fun h => by have := h.2.1; omega)]
      simp [backfillref08_number.j0]
    · rw [if_neg h2]
      have hmain : Canon s.data.toList → backfillref08_number.j0 60 s false = some (if numB s = true then (atoiV s, true) else (0, false)) := by
        intro hC
        simp only [backfillref08_number.j0, Bool.false_eq_true, if_false]
        have := number_loop s (by omega) s.size 59 0 0 (by omega) (by omega) (by omega) (by omega)
        simp only [Int.natCast_zero, List.drop_zero] at this
        rw [this]
        cases hq : numR 0 s.data.toList with
        | none =>
          have : numB s = false := by
            cases hb : numB s with
            | false => rfl
            | true =>
              obtain ⟨_, v, hv⟩ := (numB_iff s).2 hb
              rw [hq] at hv
              cases hv
          rw [this]
          rfl
        | some v =>
          rw [(numB_iff s).1 ⟨hC, v, hq⟩, numB_val s v hC hq]
          rfl
      by_cases h3 : (s.size : Int) > 1
      · rw [if_pos h3, if_pos (by omega)]
        have h0 : s.data.toList[0]? = some (s.data.toList[0]'(by omega)) := List.getElem?_eq_getElem (by omega)
        have hb := bt_get s 0 _ h0
        rw [Int.natCast_zero] at hb
        rw [hb]
        by_cases hz : s.data.toList[0]'(by omega) = 48
        · rw [hz, hnot (fun h => h.2.2 ⟨by omega, by rw [List.head?_eq_getElem?, h0, hz]⟩)]
          simp [backfillref08_number.j0]
        · rw [beq_eq_false_iff_ne.2 (fun e => hz (UInt8.toNat_inj.1 (show _ = 48 from by omega)))]
          exact hmain ⟨by omega, by omega, fun h => hz (by have := h.2; rw [List.head?_eq_getElem?, h0] at this; exact Option.some.inj this)⟩
      · rw [if_neg h3]
        exact hmain ⟨by omega, by omega, fun h => by omega⟩

theorem rnumber_any (s : ByteArray) (w : World) : Calls Tryd.prog 21 #[.string s] w fun e w' => e = .returned (.tuple #[.int .i64 (if numB s = true then atoiV s else 0), .bool (numB s)]) ∧ Drawn0 w w' := by
  have := backfillref08_number.calls 60 s (if numB s = true then atoiV s else 0) (numB s) w (by
    rw [number_f]
    cases numB s <;> rfl)
  exact this

theorem strOf_digit (d : Nat) (h : d < 10) : strOfNums [((48 + d : Nat) : Int)] = ⟨#[UInt8.ofNat (48 + d)]⟩ := by
  have : ∀ d : Fin 10, strOfNums [((48 + d.val : Nat) : Int)] = ⟨#[UInt8.ofNat (48 + d.val)]⟩ := by decide
  exact this ⟨d, h⟩

theorem dig_loop (d : Nat) : ∀ (k u : Nat) (x3 : ByteArray), u < 10 ^ d → u < 9223372036854775808 → d < k → x3.size + d ≤ 1000 →
    ∃ r : ByteArray, PVerbsWrites.backfillref08_digits.l0 k (u : Int) x3 = some r ∧ r.data.toList = (if u < 10 then [] else decDigits (u / 10)) ++ x3.data.toList := by
  induction d with
  | zero =>
    intro k u x3 h1 h2 h3 h4
    obtain ⟨k, rfl⟩ : ∃ m, k = m + 1 := ⟨k - 1, by omega⟩
    have hu : u = 0 := by simpa using h1
    subst hu
    refine ⟨x3, ?_, by simp⟩
    simp only [PVerbsWrites.backfillref08_digits.l0]
    rw [if_neg (by omega)]
  | succ d ih =>
    intro k u x3 h1 h2 h3 h4
    obtain ⟨k, rfl⟩ : ∃ m, k = m + 1 := ⟨k - 1, by omega⟩
    by_cases h10 : u < 10
    · refine ⟨x3, ?_, by rw [if_pos h10]; rfl⟩
      simp only [PVerbsWrites.backfillref08_digits.l0]
      rw [if_neg (by omega)]
    · have e1 : wrap64 (Int.tdiv (u : Int) 10) = ((u / 10 : Nat) : Int) := by
        rw [Int.tdiv_eq_ediv_of_nonneg (by omega)]; unfold wrap64; omega
      have e2 : wrap64 (48 + Int.tmod ((u / 10 : Nat) : Int) 10) % 256 = ((48 + u / 10 % 10 : Nat) : Int) := by
        rw [Int.tmod_eq_emod_of_nonneg (by omega)]; unfold wrap64; omega
      have e3 := strOf_digit (u / 10 % 10) (by omega)
      obtain ⟨r, hr, hd⟩ := ih k (u / 10) (strOfNums [((48 + u / 10 % 10 : Nat) : Int)] ++ x3) (by rw [Nat.pow_succ] at h1; omega) (by omega) (by omega) (by rw [e3, ByteArray.size_append]; show 1 + x3.size + d ≤ 1000; omega)
      refine ⟨r, ?_, ?_⟩
      · simp only [PVerbsWrites.backfillref08_digits.l0, Option.bind_some]
        rw [if_pos (by omega), e1, e2, if_pos (by rw [e3]; show 1 + x3.size ≤ _; omega)]
        exact hr
      · rw [hd, e3, if_neg h10]
        have : ((⟨#[UInt8.ofNat (48 + u / 10 % 10)]⟩ : ByteArray) ++ x3).data.toList = UInt8.ofNat (48 + u / 10 % 10) :: x3.data.toList := by simp
        rw [this]
        by_cases h100 : u / 10 < 10
        · rw [if_pos h100, decDigits, dif_pos h100, show u / 10 % 10 = u / 10 from by omega]
          rfl
        · rw [if_neg h100]
          conv => rhs; rw [decDigits, dif_neg h100]
          simp

theorem dig_f (u : Nat) (h : u < 9223372036854775808) : PVerbsWrites.backfillref08_digits.f 30 (u : Int) = some ⟨(itoa (u : Int)).toArray⟩ := by
  unfold PVerbsWrites.backfillref08_digits.f
  have e2 : wrap64 (48 + Int.tmod (u : Int) 10) % 256 = ((48 + u % 10 : Nat) : Int) := by
    rw [Int.tmod_eq_emod_of_nonneg (by omega)]; unfold wrap64; omega
  have e3 := strOf_digit (u % 10) (by omega)
  obtain ⟨r, hr, hd⟩ := dig_loop 19 30 u (strOfNums [((48 + u % 10 : Nat) : Int)]) (by omega) h (by omega) (by rw [e3]; show 1 + 19 ≤ 1000; omega)
  rw [e2, hr, itoa_nonneg]
  congr 1
  have : r.data.toList = decDigits u := by
    rw [hd, e3]
    by_cases h10 : u < 10
    · rw [if_pos h10, decDigits, dif_pos h10, show u % 10 = u from by omega]; rfl
    · rw [if_neg h10]
      conv => rhs; rw [decDigits, dif_neg h10]
  rw [← this]
theorem digits_any (n : Int) (h0 : 0 ≤ n) (h1 : n ≤ 9223372036854775807) (w : World) : Calls Tryd.prog 27 #[.int .i64 n] w fun e w' => e = .returned (.string ⟨(itoa n).toArray⟩) ∧ Below w.heap.size w w' := by
  obtain ⟨u, rfl⟩ := Int.eq_ofNat_of_zero_le h0
  exact PVerbsWrites.backfillref08_digits.calls 30 (u : Int) _ w (dig_f u (by omega))

/-! ### letters -/
def letter (f : Int) : UInt8 := if f = 0 then 78 else if f = 1 then 80 else if f = 2 then 104 else if f = 3 then 110 else if f = 4 then 108 else if f = 5 then 106 else 116
theorem named_any (f : Int) (w : World) : Calls Tryd.prog 19 #[.int .u8 ((letter f).toNat : Int)] w fun e w' => e = .returned (.bool (decide (IsT f))) ∧ Drawn0 w w' := by
  refine backfillref08_named.calls _ _ w ?_
  unfold letter backfillref08_named.f IsT
  by_cases h0 : f = 0
  · simp [h0]
  by_cases h1 : f = 1
  · simp [h1]
  rw [if_neg h0, if_neg h1]
  by_cases h2 : f = 2
  · simp [h2]
  by_cases h3 : f = 3
  · simp [h3]
  by_cases h4 : f = 4
  · simp [h4]
  by_cases h5 : f = 5
  · simp [h5]
  simp [h0, h1, h2, h3, h4, h5]

theorem rtext0 (b : Nat) (w : World) : Calls Tryd.prog 20 #[.pointer (some ⟨b, 0, none⟩), .int .u8 78] w fun e w' => e = .returned (.pointer (some ⟨b, 1, none⟩)) ∧ w = w' := by
  go_enter Tryd.func20, Tryd.ntmps20
  go_wp2
  go_ret
  exact ⟨rfl, rfl⟩
theorem rtext1 (b : Nat) (w : World) : Calls Tryd.prog 20 #[.pointer (some ⟨b, 0, none⟩), .int .u8 80] w fun e w' => e = .returned (.pointer (some ⟨b, 2, none⟩)) ∧ w = w' := by
  go_enter Tryd.func20, Tryd.ntmps20
  go_wp2
  go_ret
  exact ⟨rfl, rfl⟩
theorem rvalue_any (b : Nat) (f : Int) (hf : ¬ IsT f) (w : World) : Calls Tryd.prog 22 #[.pointer (some ⟨b, 0, none⟩), .int .u8 ((letter f).toNat : Int)] w fun e w' => e = .returned (.pointer (some ⟨b, numOff f, none⟩)) ∧ w = w' := by
  unfold IsT at hf
  have hf0 : ¬ f = 0 := fun h => hf (.inl h)
  have hf1 : ¬ f = 1 := fun h => hf (.inr h)
  by_cases h2 : f = 2
  · subst h2
    show Calls Tryd.prog 22 #[.pointer (some ⟨b, 0, none⟩), .int .u8 104] w fun e w' => e = .returned (.pointer (some ⟨b, 3, none⟩)) ∧ w = w'
    go_enter Tryd.func22, Tryd.ntmps22
    go_wp2
    go_ret
    exact ⟨rfl, rfl⟩
  by_cases h3 : f = 3
  · subst h3
    show Calls Tryd.prog 22 #[.pointer (some ⟨b, 0, none⟩), .int .u8 110] w fun e w' => e = .returned (.pointer (some ⟨b, 4, none⟩)) ∧ w = w'
    go_enter Tryd.func22, Tryd.ntmps22
    go_wp2
    go_ret
    exact ⟨rfl, rfl⟩
  by_cases h4 : f = 4
  · subst h4
    show Calls Tryd.prog 22 #[.pointer (some ⟨b, 0, none⟩), .int .u8 108] w fun e w' => e = .returned (.pointer (some ⟨b, 5, none⟩)) ∧ w = w'
    go_enter Tryd.func22, Tryd.ntmps22
    go_wp2
    go_ret
    exact ⟨rfl, rfl⟩
  by_cases h5 : f = 5
  · subst h5
    show Calls Tryd.prog 22 #[.pointer (some ⟨b, 0, none⟩), .int .u8 106] w fun e w' => e = .returned (.pointer (some ⟨b, 6, none⟩)) ∧ w = w'
    go_enter Tryd.func22, Tryd.ntmps22
    go_wp2
    go_ret
    exact ⟨rfl, rfl⟩
  have e1 : letter f = 116 := by simp [letter, hf0, hf1, h2, h3, h4, h5]
  have e2 : numOff f = 7 := by simp [numOff, h2, h3, h4, h5]
  rw [e1, e2]
  clear e1 e2 h2 h3 h4 h5 hf0 hf1 hf
  show Calls Tryd.prog 22 #[.pointer (some ⟨b, 0, none⟩), .int .u8 116] w fun e w' => e = .returned (.pointer (some ⟨b, 7, none⟩)) ∧ w = w'
  go_enter Tryd.func22, Tryd.ntmps22
  go_wp2
  go_ret
  exact ⟨rfl, rfl⟩

end Go.Proofs.YtamimpomeigllaaDoor.V
