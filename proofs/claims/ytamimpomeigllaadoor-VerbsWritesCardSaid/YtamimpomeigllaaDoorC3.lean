/- Own text: what the reference's split and word come to. -/
import Derived.Test.YtamimpomeigllaaDoorC2
import Derived.Test.YtamimpomeigllaaDoorA5
import Derived.Lib.IndexBytes
import Derived.Lib.IndexLaws
import Derived.Lib.CountLaws
namespace Go.Proofs.YtamimpomeigllaaDoor.V
open Go.RowKit Go.Proofs.YtamimpomeigllaaDoorW.PrintWords Go.Lib Go.Proofs.YtamimpomeigllaaDoor.PVerbsReads

def ofL (l : List UInt8) : ByteArray := ⟨l.toArray⟩
theorem ofL_data (s : ByteArray) : ofL s.data.toList = s := by
  unfold ofL
  rfl
def splA (cur : List UInt8) : List UInt8 → List (List UInt8)
  | [] => [cur]
  | c :: r => if c = 32 then cur :: splA [] r else splA (cur ++ [c]) r

theorem splA_none (l : List UInt8) : ∀ cur, (∀ k : Nat, l[k]? ≠ some 32) → splA cur l = [cur ++ l] := by
  induction l with
  | nil => intro cur _; simp [splA]
  | cons c r ih =>
    intro cur h
    have hc : c ≠ 32 := fun e => h 0 (by simp [e])
    rw [splA, if_neg hc, ih _ (fun k => by have := h (k + 1); simpa using this)]
    simp
theorem splA_some (l : List UInt8) : ∀ (cur : List UInt8) (o : Nat), l[o]? = some 32 → (∀ k : Nat, k < o → l[k]? ≠ some 32) → splA cur l = (cur ++ l.take o) :: splA [] (l.drop (o + 1)) := by
  induction l with
  | nil => intro cur o h; simp at h
  | cons c r ih =>
    intro cur o h h2
    cases o with
    | zero =>
      have hc : c = 32 := by simpa using h
      rw [splA, if_pos hc]
      simp
    | succ o =>
      have hc : c ≠ 32 := fun e => h2 0 (by omega) (by simp [e])
      rw [splA, if_neg hc, ih _ o (by simpa using h) (fun k hk => by have := h2 (k + 1) (by omega); simpa using this)]
      simp

theorem splitB_splA (k : Nat) : ∀ s : ByteArray, countB s ⟨#[32]⟩ = k → splitB ⟨#[32]⟩ 0 k s = (splA [] s.data.toList).map ofL := by
  induction k with
  | zero =>
    intro s h
    by_cases hi : indexB s ⟨#[32]⟩ = -1
    · rw [splitB_zero]
      rw [one s ⟨#[32]⟩ rfl] at hi
      rw [splA_none _ _ (indexByte_none hi)]
      simp [ofL_data]
    · obtain ⟨i, hi'⟩ : ∃ i : Nat, indexB s ⟨#[32]⟩ = i := ⟨(indexB s ⟨#[32]⟩).toNat, by
        have := indexByte_ge s.data.toList (32 : UInt8)
        have e := one s ⟨#[32]⟩ rfl
        have : indexB s ⟨#[32]⟩ = indexByte s.data.toList 32 := e
        omega⟩
      rw [countB_hit s _ i (by decide) hi'] at h
      omega
  | succ k ih =>
    intro s h
    by_cases hi : indexB s ⟨#[32]⟩ = -1
    · rw [countB_miss s _ hi] at h; omega
    · have e : indexB s ⟨#[32]⟩ = indexByte s.data.toList 32 := one s ⟨#[32]⟩ rfl
      obtain ⟨i, hi'⟩ : ∃ i : Nat, indexB s ⟨#[32]⟩ = i := ⟨(indexB s ⟨#[32]⟩).toNat, by
        have := indexByte_ge s.data.toList (32 : UInt8)
        omega⟩
      have hc := countB_hit s _ i (by decide) hi'
      rw [h] at hc
      rw [splitB, if_neg (by rw [beq_iff_eq]; exact hi), hi']
      have hr := ih (s.extract (i + 1) s.size) (by have : (⟨#[32]⟩ : ByteArray).size = 1 := rfl; rw [this] at hc; omega)
      simp only [Int.toNat_natCast]
      rw [show (⟨#[32]⟩ : ByteArray).size = 1 from rfl, hr]
      rw [e] at hi'
      obtain ⟨h1, h2⟩ := indexByte_some hi'
      rw [splA_some _ [] i h1 h2, List.map_cons]
      have hil : i < s.data.toList.length := (List.getElem?_eq_some_iff.1 h1).1
      rw [data_length] at hil
      congr 1
      · rw [← ofL_data (s.extract 0 (i + 0))]
        congr 1
        simp
      · congr 2
        simp [List.take_of_length_le]

theorem extract_ofL (s : ByteArray) (a b : Nat) : s.extract a b = ofL ((s.data.toList.drop a).take (b - a)) := by
  rw [← extract_data, ofL_data]
theorem split_loop (s : ByteArray) (hs : s.size ≤ 256) (d : Nat) : ∀ (k fr i : Nat) (acc : List ByteArray), s.size - i = d → i ≤ s.size → fr ≤ i → acc.length ≤ i → d + 2 < k →
    backfillref08_split.l0 k s acc (fr : Int) (i : Int) = some (acc ++ (splA ((s.data.toList.drop fr).take (i - fr)) (s.data.toList.drop i)).map ofL) := by
  induction d with
  | zero =>
    intro k fr i acc h1 h2 h3 h4 h5
    obtain ⟨k, rfl⟩ : ∃ m, k = m + 2 := ⟨k - 2, by omega⟩
    have hi : i = s.size := by omega
    have hdr : s.data.toList.drop i = [] := List.drop_of_length_le (by rw [data_length]; omega)
    rw [backfillref08_split.l0, if_pos (by omega), if_pos (by omega), if_pos (by omega), if_pos (by omega), if_pos (by omega)]
    rw [backfillref08_split.l0, if_neg (by unfold wrap64; omega), hdr, splA]
    simp only [Int.toNat_natCast, extract_ofL]
    rfl
  | succ d ih =>
    intro k fr i acc h1 h2 h3 h4 h5
    obtain ⟨k, rfl⟩ : ∃ m, k = m + 1 := ⟨k - 1, by omega⟩
    have hl : i < s.data.toList.length := by rw [data_length]; omega
    have hb := bt_get s i _ (List.getElem?_eq_getElem hl)
    rw [List.drop_eq_getElem_cons hl]
    rw [backfillref08_split.l0, if_pos (by omega), if_neg (by omega), if_pos (by omega), if_pos (by omega), hb]
    rw [show wrap64 ((i : Int) + 1) = ((i + 1 : Nat) : Int) from by unfold wrap64; omega]
    generalize hc : s.data.toList[i] = c
    by_cases h32 : c = 32
    · rw [if_pos (by rw [h32]; rfl), if_pos (by omega), if_pos (by omega), if_pos (by omega), ih k (i + 1) (i + 1) _ (by omega) (by omega) (by omega) (by simp; omega) (by omega)]
      rw [splA, if_pos h32]
      simp only [Int.toNat_natCast, extract_ofL, Nat.sub_self, List.take_zero, List.map_cons, List.append_assoc, List.singleton_append]
    · have hne : ¬ (c.toNat : Int) = 32 := fun e => h32 (UInt8.toNat_inj.1 (show c.toNat = 32 from by omega))
      rw [if_neg hne, ih k fr (i + 1) acc (by omega) (by omega) (by omega) (by omega) (by omega), splA, if_neg h32]
      congr 4
      rw [show i + 1 - fr = (i - fr) + 1 from by omega, List.take_add_one]
      congr 1
      rw [List.getElem?_drop, show fr + (i - fr) = i from by omega, List.getElem?_eq_getElem hl, hc]
      rfl
theorem split_f (s : ByteArray) (hs : s.size ≤ 256) : backfillref08_split.f 300 s = some (words s) := by
  unfold backfillref08_split.f
  have := split_loop s hs s.size 300 0 0 [] (by omega) (by omega) (by omega) (by simp) (by omega)
  rw [Int.natCast_zero] at this
  rw [this, words, splitB_splA _ s rfl]
  simp

/-- The reference's split: the same words. -/
theorem rsplit_any (s : ByteArray) (hs : s.size ≤ 256) (w : World) :
    Calls Tryd.prog 17 #[.string s] w fun e w' => ∃ g cap, e = .returned (.slice (some ⟨g, 0, none⟩) (words s).length cap) ∧ (words s).length ≤ cap ∧ w.heap.size ≤ g ∧ WS w' g (words s) ∧ Below w.heap.size w w' := by
  refine (backfillref08_split.calls 300 s (words s) w (split_f s hs)).mono ?_
  rintro e w' ⟨v, rfl, hR, hb⟩
  obtain ⟨g, cap, rfl, hg, hgl, _⟩ := Kd.R_form hR (words_pos s)
  obtain ⟨A, c, he, hcap, hC⟩ := Kd.R_reads hR
  injection he with e1 e2 e3
  subst e1 e3
  refine ⟨g, cap, rfl, hcap, hg, ⟨hgl, fun j hj => ?_⟩, hb⟩
  obtain ⟨ad, e, hc⟩ := (Kd.reads_of_C (d := (⟨#[]⟩ : ByteArray)) hC).2.2 (words_pos s)
  obtain rfl := Option.some.inj e
  have := hc j hj
  rwa [YtamimpomeigllaaDoorW.PrintWords.add_plain] at this

/-! ### the table of words -/
def formOf (k : Nat) : ByteArray := ⟨((vat k).f2.map letter).toArray⟩
theorem word_at (k : Nat) (hk : k < 13) : backfillref08_word.f ((k : Int) + 1) = some ((vat k).f1, formOf k) := by
  have : ∀ k : Fin 13, backfillref08_word.f ((k.val : Int) + 1) = some ((vat k.val).f1, formOf k.val) := by decide
  exact this ⟨k, hk⟩
theorem word_none (n : Int) (h : ∀ k : Nat, k < 13 → n ≠ (k : Int) + 1) : backfillref08_word.f n = some (⟨#[]⟩, ⟨#[]⟩) := by
  unfold backfillref08_word.f
  rw [if_neg (by have := h 0 (by omega); omega), if_neg (by have := h 1 (by omega); omega), if_neg (by have := h 2 (by omega); omega), if_neg (by have := h 3 (by omega); omega), if_neg (by have := h 4 (by omega); omega), if_neg (by have := h 5 (by omega); omega), if_neg (by have := h 6 (by omega); omega), if_neg (by have := h 7 (by omega); omega), if_neg (by have := h 8 (by omega); omega), if_neg (by have := h 9 (by omega); omega), if_neg (by have := h 10 (by omega); omega), if_neg (by have := h 11 (by omega); omega), if_neg (by have := h 12 (by omega); omega)]
theorem form_size (k : Nat) : (formOf k).size = (vat k).f2.length := by
  unfold formOf
  show ((vat k).f2.map letter).toArray.size = _
  simp
theorem vat_distinct (i j : Nat) (hi : i < 13) (hj : j < 13) (h : (vat i).f1 = (vat j).f1) : i = j := by
  have : ∀ i j : Fin 13, (vat i.val).f1 = (vat j.val).f1 → i = j := by decide
  have := this ⟨i, hi⟩ ⟨j, hj⟩ h
  exact congrArg Fin.val this

end Go.Proofs.YtamimpomeigllaaDoor.V
