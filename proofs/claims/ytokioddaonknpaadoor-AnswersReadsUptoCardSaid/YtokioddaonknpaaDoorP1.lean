/- Own text: numerals and words parted by blanks, in plain Lean. -/
import Derived.Lib.Join
import Derived.Lib.ItoaLen
import Derived.Lib.ItoaNum
import Derived.Lib.SplitLaws
import Derived.Lib.AtoiAllCases
import Derived.Lib.IndexBytes
import Derived.Lib.IndexLaws
import Derived.Lib.CountLaws
namespace Go.Proofs.YtokioddaonknpaaDoor.A
open Go.Lib

def Rng (n : Int) : Prop := -9223372036854775808 ≤ n ∧ n ≤ 9223372036854775807

/-! ### numerals -/
theorem parse_app (c : UInt8) (hc : 48 ≤ c.toNat ∧ c.toNat ≤ 57) : ∀ (l : List UInt8) (acc v : Nat), parseUint10 acc l = .ok v → v * 10 + (c.toNat - 48) < 18446744073709551616 → parseUint10 acc (l ++ [c]) = .ok (v * 10 + (c.toNat - 48))
  | [], acc, v, h, hv => by
    simp only [parseUint10] at h
    injection h with h
    subst h
    simp only [List.nil_append, parseUint10]
    rw [if_pos hc, if_neg (by omega), if_neg (by omega)]
  | d :: r, acc, v, h, hv => by
    simp only [parseUint10] at h
    simp only [List.cons_append, parseUint10]
    split at h
    · rename_i hd
      split at h
      · cases h
      · rename_i h1
        split at h
        · cases h
        · rename_i h2
          rw [if_pos hd, if_neg h1, if_neg h2]
          exact parse_app c hc r _ v h hv
    · cases h
theorem parse_dec (u : Nat) : u < 18446744073709551616 → parseUint10 0 (decDigits u) = .ok u := by
  induction u using Nat.strongRecOn with
  | _ u ih =>
    intro hu
    by_cases h10 : u < 10
    · rw [decDigits, dif_pos h10]
      have e : (UInt8.ofNat (48 + u)).toNat = 48 + u := by simp; omega
      simp only [parseUint10, e]
      rw [if_pos (by omega), if_neg (by omega), if_neg (by omega)]
      congr 1; omega
    · rw [decDigits, dif_neg h10]
      have e : (UInt8.ofNat (48 + u % 10)).toNat = 48 + u % 10 := by simp; omega
      have := parse_app (UInt8.ofNat (48 + u % 10)) (by rw [e]; omega) _ 0 _ (ih (u / 10) (by omega) (by omega)) (by rw [e]; omega)
      rw [this, e]
      congr 1; omega
theorem decDigits_digit (u : Nat) : ∀ c ∈ decDigits u, 48 ≤ c.toNat ∧ c.toNat ≤ 57 := by
  induction u using Nat.strongRecOn with
  | _ u ih =>
    intro c hc
    by_cases h10 : u < 10
    · rw [decDigits, dif_pos h10] at hc
      simp only [List.mem_singleton] at hc
      subst hc
      simp; omega
    · rw [decDigits, dif_neg h10] at hc
      rcases List.mem_append.1 hc with hc | hc
      · exact ih _ (by omega) c hc
      · simp only [List.mem_singleton] at hc
        subst hc
        simp; omega
theorem decDigits_ne (u : Nat) : decDigits u ≠ [] := by
  rw [decDigits]
  split <;> simp
theorem mag_dec (u : Nat) (hu : u < 18446744073709551616) : parseMag (decDigits u) = .ok u := by
  unfold parseMag
  rw [if_neg (decDigits_ne u)]
  exact parse_dec u hu
theorem atoi_itoa (n : Int) (h : Rng n) : atoiAll (itoa n) = .ok n := by
  unfold Rng at h
  unfold itoa
  by_cases hn : n < 0
  · rw [if_pos hn, atoiAll_minus, mag_dec _ (by omega)]
    show (if 9223372036854775808 < n.natAbs then NumEnd.range else .ok (-(n.natAbs : Int))) = _
    rw [if_neg (by omega)]
    congr 1; omega
  · rw [if_neg hn]
    obtain ⟨c, r, e⟩ := List.exists_cons_of_ne_nil (decDigits_ne n.toNat)
    have hc := decDigits_digit n.toNat c (by rw [e]; simp)
    rw [e, atoiAll_plain c r (by omega) (by omega), ← e, mag_dec _ (by omega)]
    show (if 9223372036854775808 ≤ n.toNat then NumEnd.range else .ok (n.toNat : Int)) = _
    rw [if_neg (by omega)]
    congr 1; omega
theorem itoa_no32 (n : Int) : ∀ c ∈ itoa n, c ≠ 32 := by
  intro c hc e
  subst e
  unfold itoa at hc
  split at hc
  · rcases List.mem_cons.1 hc with h | h
    · exact absurd h (by decide)
    · have := decDigits_digit _ _ h
      exact absurd this.1 (by decide)
  · have := decDigits_digit _ _ hc
    exact absurd this.1 (by decide)

/-- A word read as a number: what Itoa writes of it is the word. -/
def canon (l : List UInt8) : Option Int := match atoiAll l with
  | .ok v => if itoa v = l then some v else none
  | _ => none
theorem canon_itoa (n : Int) (h : Rng n) : canon (itoa n) = some n := by
  unfold canon
  rw [atoi_itoa n h]
  simp
theorem canon_rng {l : List UInt8} {v : Int} (h : canon l = some v) : Rng v ∧ itoa v = l := by
  unfold canon at h
  split at h
  · rename_i u hu
    split at h
    · rename_i he
      injection h with h
      subst h
      exact ⟨atoiAll_bounds hu, he⟩
    · cases h
  · cases h
/-- Words read as numbers. -/
def canons : List (List UInt8) → Option (List Int)
  | [] => some []
  | x :: r => match canon x with
    | none => none
    | some v => match canons r with
      | none => none
      | some l => some (v :: l)
theorem canons_itoa : ∀ l : List Int, (∀ n ∈ l, Rng n) → canons (l.map itoa) = some l
  | [], _ => rfl
  | n :: l, h => by
    rw [List.map_cons, canons, canon_itoa n (h n (by simp)), canons_itoa l (fun x hx => h x (by simp [hx]))]

/-! ### words -/
theorem data_length (s : ByteArray) : s.data.toList.length = s.size := by rw [Array.length_toList]; rfl
def ofL (l : List UInt8) : ByteArray := ⟨l.toArray⟩
theorem ofL_data (s : ByteArray) : ofL s.data.toList = s := by
  unfold ofL
  rfl
theorem data_ofL (l : List UInt8) : (ofL l).data.toList = l := by
  unfold ofL
  simp
theorem ofL_inj {a b : List UInt8} (h : ofL a = ofL b) : a = b := by rw [← data_ofL a, h, data_ofL]
theorem ofL_app (a b : List UInt8) : ofL a ++ ofL b = ofL (a ++ b) := by
  rw [← ofL_data (ofL a ++ ofL b)]
  congr 1
  first | done | simp [data_ofL]
def splA (cur : List UInt8) : List UInt8 → List (List UInt8)
  | [] => [cur]
  | c :: r => if c = 32 then cur :: splA [] r else splA (cur ++ [c]) r
theorem splA_none (l : List UInt8) : ∀ cur, (∀ k : Nat, l[k]? ≠ some 32) → splA cur l = [cur ++ l] := by
  induction l with
  | nil => intro cur _; simp [splA]
  | cons c r ih =>
    intro cur h
    have hc : c ≠ 32 := fun e => h 0 (by simp [e])
    rw [splA, if_neg hc, ih _ (fun k => by have := h (k + 1); simpa using this)]
    simp
theorem splA_some (l : List UInt8) : ∀ (cur : List UInt8) (o : Nat), l[o]? = some 32 → (∀ k : Nat, k < o → l[k]? ≠ some 32) → splA cur l = (cur ++ l.take o) :: splA [] (l.drop (o + 1)) := by
  induction l with
  | nil => intro cur o h; simp at h
  | cons c r ih =>
    intro cur o h h2
    cases o with
    | zero =>
      have hc : c = 32 := by simpa using h
      rw [splA, if_pos hc]
      simp
    | succ o =>
      have hc : c ≠ 32 := fun e => h2 0 (by omega) (by simp [e])
      rw [splA, if_neg hc, ih _ o (by simpa using h) (fun k hk => by have := h2 (k + 1) (by omega); simpa using this)]
      simp
theorem splitB_splA (k : Nat) : ∀ s : ByteArray, countB s ⟨#[32]⟩ = k → splitB ⟨#[32]⟩ 0 k s = (splA [] s.data.toList).map ofL := by
  induction k with
  | zero =>
    intro s h
    by_cases hi : indexB s ⟨#[32]⟩ = -1
    · rw [splitB_zero]
      rw [one s ⟨#[32]⟩ rfl] at hi
      rw [splA_none _ _ (indexByte_none hi)]
      simp [ofL_data]
    · obtain ⟨i, hi'⟩ : ∃ i : Nat, indexB s ⟨#[32]⟩ = i := ⟨(indexB s ⟨#[32]⟩).toNat, by
        have := indexByte_ge s.data.toList (32 : UInt8)
        have e := one s ⟨#[32]⟩ rfl
        have : indexB s ⟨#[32]⟩ = indexByte s.data.toList 32 := e
        omega⟩
      rw [countB_hit s _ i (by decide) hi'] at h
      omega
  | succ k ih =>
    intro s h
    by_cases hi : indexB s ⟨#[32]⟩ = -1
    · rw [countB_miss s _ hi] at h; omega
    · have e : indexB s ⟨#[32]⟩ = indexByte s.data.toList 32 := one s ⟨#[32]⟩ rfl
      obtain ⟨i, hi'⟩ : ∃ i : Nat, indexB s ⟨#[32]⟩ = i := ⟨(indexB s ⟨#[32]⟩).toNat, by
        have := indexByte_ge s.data.toList (32 : UInt8)
        omega⟩
      have hc := countB_hit s _ i (by decide) hi'
      rw [h] at hc
      rw [splitB, if_neg (by rw [beq_iff_eq]; exact hi), hi']
      have hr := ih (s.extract (i + 1) s.size) (by have : (⟨#[32]⟩ : ByteArray).size = 1 := rfl; rw [this] at hc; omega)
      simp only [Int.toNat_natCast]
      rw [show (⟨#[32]⟩ : ByteArray).size = 1 from rfl, hr]
      rw [e] at hi'
      obtain ⟨h1, h2⟩ := indexByte_some hi'
      rw [splA_some _ [] i h1 h2, List.map_cons]
      have hil : i < s.data.toList.length := (List.getElem?_eq_some_iff.1 h1).1
      rw [data_length] at hil
      congr 1
      · rw [← ofL_data (s.extract 0 (i + 0))]
        congr 1
        simp
      · congr 2
        simp [List.take_of_length_le]
theorem extract_ofL (s : ByteArray) (a b : Nat) : s.extract a b = ofL ((s.data.toList.drop a).take (b - a)) := by
  rw [← extract_data, ofL_data]

/-- A text's words. -/
def wds (s : ByteArray) : List (List UInt8) := splA [] s.data.toList
theorem splA_ne (l : List UInt8) : ∀ cur, splA cur l ≠ [] := by
  induction l with
  | nil => intro cur; simp [splA]
  | cons c r ih =>
    intro cur
    rw [splA]
    split
    · simp
    · exact ih _
/-- Words without a blank, joined by blanks, are cut into themselves. -/
theorem splA_word (x : List UInt8) (hx : ∀ c ∈ x, c ≠ 32) (r : List UInt8) : ∀ cur, splA cur (x ++ 32 :: r) = (cur ++ x) :: splA [] r := by
  induction x with
  | nil => intro cur; simp [splA]
  | cons c x ih =>
    intro cur
    rw [List.cons_append, splA, if_neg (hx c (by simp)), ih (fun y hy => hx y (by simp [hy]))]
    simp
theorem splA_last (x : List UInt8) (hx : ∀ c ∈ x, c ≠ 32) : ∀ cur, splA cur x = [cur ++ x] := by
  induction x with
  | nil => intro cur; simp [splA]
  | cons c x ih =>
    intro cur
    rw [splA, if_neg (hx c (by simp)), ih (fun y hy => hx y (by simp [hy]))]
    simp
theorem splA_join (ws : List (List UInt8)) (hne : ws ≠ []) (h : ∀ x ∈ ws, ∀ c ∈ x, c ≠ 32) : splA [] (join ws [32]) = ws := by
  induction ws with
  | nil => exact absurd rfl hne
  | cons x r ih =>
    cases r with
    | nil =>
      rw [join_one, splA_last x (h x (by simp))]
      simp
    | cons y r =>
      have e : join (x :: y :: r) [32] = x ++ 32 :: join (y :: r) [32] := by
        rw [join_cons, join_cons]
        simp [joinTail]
      rw [e, splA_word x (h x (by simp)), ih (by simp) (fun z hz => h z (by simp [hz]))]
      simp

end Go.Proofs.YtokioddaonknpaaDoor.A
