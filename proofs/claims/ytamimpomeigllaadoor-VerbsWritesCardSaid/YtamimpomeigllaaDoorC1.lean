/- Own text: the plain laws on numerals: what the reference's digits and number come to, held against the library's. -/
import Derived.Test.YtamimpomeigllaaDoorA3
import Derived.Test.YtamimpomeigllaaDoorPVerbsReadsx6
import Derived.Test.YtamimpomeigllaaDoorPVerbsWritesx6
import Derived.Lib.ItoaLen
namespace Go.Proofs.YtamimpomeigllaaDoor.V
open Go.RowKit Go.Proofs.YtamimpomeigllaaDoorW.PrintWords Go.Lib

/-! ### the value of a list of digits -/
def numR : Nat → List UInt8 → Option Nat
  | acc, [] => some acc
  | acc, c :: r => if 48 ≤ c.toNat ∧ c.toNat ≤ 57 then (if 9223372036854775808 ≤ acc * 10 + (c.toNat - 48) then none else numR (acc * 10 + (c.toNat - 48)) r) else none

theorem numR_parse : ∀ (l : List UInt8) (acc v : Nat), acc < 9223372036854775808 → numR acc l = some v → parseUint10 acc l = .ok v ∧ v < 9223372036854775808
  | [], acc, v, ha, h => by simp only [numR, Option.some.injEq] at h; subst h; exact ⟨rfl, ha⟩
  | c :: r, acc, v, ha, h => by
    simp only [numR] at h
    split at h
    · rename_i hd
      split at h
      · cases h
      · have := numR_parse r _ v (by omega) h
        refine ⟨?_, this.2⟩
        simp only [parseUint10]
        rw [if_pos hd, if_neg (by omega), if_neg (by omega)]
        exact this.1
    · cases h
theorem parse_ge : ∀ (l : List UInt8) (acc v : Nat), parseUint10 acc l = .ok v → acc ≤ v
  | [], acc, v, h => by simp only [parseUint10] at h; injection h with h; omega
  | c :: r, acc, v, h => by
    simp only [parseUint10] at h
    split at h
    · split at h
      · cases h
      · split at h
        · cases h
        · have := parse_ge r _ v h; omega
    · cases h
theorem parse_numR : ∀ (l : List UInt8) (acc v : Nat), parseUint10 acc l = .ok v → v < 9223372036854775808 → numR acc l = some v
  | [], acc, v, h, _ => by simp only [parseUint10] at h; injection h with h; subst h; rfl
  | c :: r, acc, v, h, hv => by
    simp only [parseUint10] at h
    split at h
    · rename_i hd
      split at h
      · cases h
      · split at h
        · cases h
        · have := parse_ge r _ v h
          simp only [numR]
          rw [if_pos hd, if_neg (by omega)]
          exact parse_numR r _ v h hv
    · cases h

/-- a numeral as Itoa writes it -/
def Canon (l : List UInt8) : Prop := 1 ≤ l.length ∧ l.length ≤ 19 ∧ ¬ (1 < l.length ∧ l.head? = some 48)
instance (l : List UInt8) : Decidable (Canon l) := by unfold Canon; infer_instance

theorem nDigits_le (k : Nat) : ∀ u : Nat, u < 10 ^ (k + 1) → nDigits u ≤ k + 1 := by
  induction k with
  | zero => intro u h; rw [nDigits_small (by simpa using h)]; exact Nat.le_refl _
  | succ k ih =>
    intro u h
    by_cases h10 : u < 10
    · rw [nDigits_small h10]; omega
    · rw [nDigits_big h10]
      have := ih (u / 10) (by rw [Nat.pow_succ] at h; omega)
      omega
theorem decDigits_head (u : Nat) (h : 0 < u) : (decDigits u).head? ≠ some 48 := by
  induction u using Nat.strongRecOn with
  | _ u ih =>
    by_cases h10 : u < 10
    · rw [decDigits, dif_pos h10]
      simp only [List.head?_cons, ne_eq, Option.some.injEq]
      intro e
      have := congrArg UInt8.toNat e
      simp at this
      omega
    · rw [decDigits, dif_neg h10]
      have h1 := ih (u / 10) (by omega) (by omega)
      have h2 : decDigits (u / 10) ≠ [] := by
        intro e
        have := decDigits_length (u / 10)
        rw [e] at this
        have := nDigits_pos (u / 10)
        simp at *
        omega
      obtain ⟨x, r, e⟩ := List.exists_cons_of_ne_nil h2
      rw [e] at h1 ⊢
      simpa using h1
theorem decDigits_digit (u : Nat) : ∀ c ∈ decDigits u, 48 ≤ c.toNat ∧ c.toNat ≤ 57 := by
  induction u using Nat.strongRecOn with
  | _ u ih =>
    intro c hc
    by_cases h10 : u < 10
    · rw [decDigits, dif_pos h10] at hc
      simp only [List.mem_singleton] at hc
      subst hc
      simp; omega
    · rw [decDigits, dif_neg h10] at hc
      rcases List.mem_append.1 hc with hc | hc
      · exact ih _ (by omega) c hc
      · simp only [List.mem_singleton] at hc
        subst hc
        simp; omega
def val (acc : Nat) (l : List UInt8) : Nat := l.foldl (fun a c => a * 10 + (c.toNat - 48)) acc
theorem numR_val : ∀ (l : List UInt8) (acc v : Nat), numR acc l = some v → v = val acc l ∧ ∀ c ∈ l, 48 ≤ c.toNat ∧ c.toNat ≤ 57
  | [], acc, v, h => by simp only [numR, Option.some.injEq] at h; subst h; exact ⟨rfl, fun c hc => by cases hc⟩
  | c :: r, acc, v, h => by
    simp only [numR] at h
    split at h
    · rename_i hd
      split at h
      · cases h
      · have := numR_val r _ v h
        refine ⟨this.1, fun x hx => ?_⟩
        rcases List.mem_cons.1 hx with rfl | hx
        · exact hd
        · exact this.2 x hx
    · cases h
theorem val_ge (l : List UInt8) (acc : Nat) : acc ≤ val acc l := by
  induction l generalizing acc with
  | nil => exact Nat.le_refl _
  | cons c r ih =>
    have := ih (acc * 10 + (c.toNat - 48))
    show acc ≤ val (acc * 10 + (c.toNat - 48)) r
    omega
/-- the digits of a value are the numeral again -/
theorem dec_val (n : Nat) : ∀ l : List UInt8, l.length = n + 1 → (∀ c ∈ l, 48 ≤ c.toNat ∧ c.toNat ≤ 57) → ¬ (1 < l.length ∧ l.head? = some 48) → decDigits (val 0 l) = l := by
  induction n with
  | zero =>
    intro l hl hd _
    match l, hl with
    | [c], _ =>
      have h := hd c (by simp)
      show decDigits (0 * 10 + (c.toNat - 48)) = [c]
      rw [decDigits, dif_pos (by omega)]
      congr 1
      apply UInt8.toNat_inj.1
      simp; omega
  | succ n ih =>
    intro l hl hd hz
    obtain ⟨l', c, rfl⟩ : ∃ l' c, l = l' ++ [c] := ⟨l.dropLast, l.getLast (by intro e; rw [e] at hl; simp at hl), (List.dropLast_concat_getLast _).symm⟩
    have hl' : l'.length = n + 1 := by simp at hl; exact hl
    have hc := hd c (by simp)
    have hhead : (l' ++ [c]).head? = l'.head? := by
      cases l' with
      | nil => simp at hl'
      | cons x r => rfl
    have hnz : l'.head? ≠ some 48 := fun e => hz ⟨by simp; omega, by rw [hhead]; exact e⟩
    have hI := ih l' hl' (fun x hx => hd x (by simp [hx])) (fun h => hnz h.2)
    have hpos : 0 < val 0 l' := by
      cases l' with
      | nil => simp at hl'
      | cons x r =>
        have hx := hd x (by simp)
        have hx48 : x.toNat ≠ 48 := fun e => hnz (by simp; exact UInt8.toNat_inj.1 e)
        have := val_ge r (0 * 10 + (x.toNat - 48))
        show 0 < val (0 * 10 + (x.toNat - 48)) r
        omega
    have hv : val 0 (l' ++ [c]) = val 0 l' * 10 + (c.toNat - 48) := by unfold val; rw [List.foldl_append]; rfl
    rw [hv, decDigits, dif_neg (by omega), show (val 0 l' * 10 + (c.toNat - 48)) / 10 = val 0 l' from by omega, hI, show (val 0 l' * 10 + (c.toNat - 48)) % 10 = c.toNat - 48 from by omega]
    congr 2
    apply UInt8.toNat_inj.1
    simp; omega

theorem toList_data (s : ByteArray) : s.toList = s.data.toList := by
  first | exact ByteArray.toList_eq s | simp | rfl

theorem numB_iff (s : ByteArray) : (Canon s.data.toList ∧ ∃ v, numR 0 s.data.toList = some v) ↔ numB s = true := by
  constructor
  · rintro ⟨⟨h1, h2, h3⟩, v, hv⟩
    have hp := numR_parse _ _ _ (by omega) hv
    obtain ⟨hval, hdig⟩ := numR_val _ _ _ hv
    obtain ⟨c, r, e⟩ := List.exists_cons_of_ne_nil (show s.data.toList ≠ [] from fun e => by rw [e] at h1; simp at h1)
    have hc := hdig c (by rw [e]; simp)
    have hat : atoiAll s.data.toList = .ok (v : Int) := by
      have hp1 := hp.1
      rw [e] at hp1 ⊢
      rw [atoiAll_plain c r (by omega) (by omega)]
      simp only [parseMag, if_neg (List.cons_ne_nil c r), hp1, signless]
      rw [if_neg (by omega)]
    rw [numB_ok hat]
    have hd := dec_val (s.data.toList.length - 1) s.data.toList (by omega) hdig h3
    rw [itoa_nonneg, hval, hd, toList_data]
    simp
  · intro h
    unfold numB at h
    split at h
    · rename_i v hv
      simp only [Bool.and_eq_true, decide_eq_true_eq, beq_iff_eq] at h
      obtain ⟨h0, he⟩ := h
      rw [toList_data] at he
      obtain ⟨u, rfl⟩ := Int.eq_ofNat_of_zero_le h0
      rw [itoa_nonneg] at he
      have hb := atoiAll_bounds hv
      have hdig := decDigits_digit u
      have hlen := decDigits_length u
      rw [he] at hdig hlen
      have hpos := nDigits_pos u
      have hle := nDigits_le 18 u (by omega)
      obtain ⟨c, r, e⟩ := List.exists_cons_of_ne_nil (show s.data.toList ≠ [] from fun e => by rw [e] at hlen; simp at hlen; omega)
      have hc := hdig c (by rw [e]; simp)
      refine ⟨⟨by omega, by omega, fun hz => ?_⟩, u, ?_⟩
      · by_cases hu : 0 < u
        · have := decDigits_head u hu
          rw [he] at this
          exact this hz.2
        · obtain rfl : u = 0 := by omega
          rw [hlen, nDigits_small (by omega)] at hz
          omega
      · rw [e, atoiAll_plain c r (by omega) (by omega)] at hv
        rw [← e] at hv
        simp only [parseMag] at hv
        rw [if_neg (by rw [e]; simp)] at hv
        cases hq : parseUint10 0 s.data.toList with
        | range => rw [hq] at hv; cases hv
        | ok x =>
          rw [hq] at hv
          simp only [signless] at hv
          split at hv
          · cases hv
          · injection hv with hv
            have : x = u := by omega
            subst this
            exact parse_numR _ _ _ hq (by omega)
        | _ => rw [hq] at hv; cases hv
    · cases h
theorem numB_val (s : ByteArray) (v : Nat) (hc : Canon s.data.toList) (hv : numR 0 s.data.toList = some v) : atoiV s = (v : Int) := by
  have hp := numR_parse _ _ _ (by omega) hv
  obtain ⟨hval, hdig⟩ := numR_val _ _ _ hv
  obtain ⟨c, r, e⟩ := List.exists_cons_of_ne_nil (show s.data.toList ≠ [] from fun e => by have := hc.1; rw [e] at this; simp at this)
  have hcc := hdig c (by rw [e]; simp)
  refine atoiV_ok ?_
  have hp1 := hp.1
  rw [e] at hp1 ⊢
  rw [atoiAll_plain c r (by omega) (by omega)]
  simp only [parseMag, if_neg (List.cons_ne_nil c r), hp1, signless]
  rw [if_neg (by omega)]

end Go.Proofs.YtamimpomeigllaaDoor.V
