/- Own text: what the printed functional forms of the reference's from0, rises, words, cut, whole, number, read come to. -/
import Derived.Test.YtokioddaonknpaaDoorF1
import Derived.Test.YtokioddaonknpaaDoorB3
import Derived.Test.YtokioddaonknpaaDoorB4
namespace Go.Proofs.YtokioddaonknpaaDoor.A
open Go.RowKit Go.Lib Go.Proofs.YtokioddaonknpaaDoorW.PrintWords Go.Proofs.YtokioddaonknpaaDoor.PAnswersReads
set_option linter.unusedSimpArgs false

theorem rfrom0_loop (l : List Int) (hl : l.length ≤ 4611686018427387904) (d : Nat) : ∀ (k i : Nat), l.length - i = d → i ≤ l.length → d < k → backfillref09_from0.l0 k l (l.length : Int) (i : Int) = some (decide (nonneg (l.drop i))) := by
  induction d with
  | zero =>
    intro k i h1 h2 h3
    obtain ⟨k, rfl⟩ : ∃ m, k = m + 1 := ⟨k - 1, by omega⟩
    rw [backfillref09_from0.l0, if_neg (by omega), List.drop_of_length_le (by omega), decide_eq_true nonneg_nil]
  | succ d ih =>
    intro k i h1 h2 h3
    obtain ⟨k, rfl⟩ : ∃ m, k = m + 1 := ⟨k - 1, by omega⟩
    have hi : i < l.length := by omega
    rw [backfillref09_from0.l0, if_pos (by omega), if_pos (by omega), if_pos (by omega), rd_get hi, List.drop_eq_getElem_cons hi, w64 hi hl]
    by_cases h : l[i] < 0
    · rw [if_pos h, decide_eq_false (fun hn => by have := ((nonneg_cons _ _).1 hn).1; omega)]
    · rw [if_neg h, ih k (i + 1) (by omega) (by omega) (by omega)]
      congr 1
      rw [decide_eq_decide, nonneg_cons]
      exact ⟨fun h' => ⟨by omega, h'⟩, fun h' => h'.2⟩
theorem rfrom0_f (l : List Int) (hl : l.length ≤ 4611686018427387904) (k : Nat) (hk : l.length < k) : backfillref09_from0.f k l = some (decide (nonneg l)) := rfrom0_loop l hl l.length k 0 (by omega) (by omega) hk
theorem rrises_loop (l : List Int) (hl : l.length ≤ 4611686018427387904) (d : Nat) : ∀ (k i : Nat) (x : Int), l.length - i = d → i ≤ l.length → d < k → backfillref09_rises.l0 k x l (l.length : Int) (i : Int) = some (decide (risesP x (l.drop i))) := by
  induction d with
  | zero =>
    intro k i x h1 h2 h3
    obtain ⟨k, rfl⟩ : ∃ m, k = m + 1 := ⟨k - 1, by omega⟩
    rw [backfillref09_rises.l0, if_neg (by omega), List.drop_of_length_le (by omega), decide_eq_true (p := risesP x []) trivial]
  | succ d ih =>
    intro k i x h1 h2 h3
    obtain ⟨k, rfl⟩ : ∃ m, k = m + 1 := ⟨k - 1, by omega⟩
    have hi : i < l.length := by omega
    rw [backfillref09_rises.l0, if_pos (by omega), if_pos (by omega), if_pos (by omega), rd_get hi, List.drop_eq_getElem_cons hi, w64 hi hl]
    by_cases h : l[i] ≤ x
    · rw [if_pos h, decide_eq_false (fun hn => by have := hn.1; omega)]
    · rw [if_neg h, ih k (i + 1) _ (by omega) (by omega) (by omega)]
      congr 1
      rw [decide_eq_decide]
      exact ⟨fun h' => ⟨by omega, h'⟩, fun h' => h'.2⟩
theorem rrises_f (l : List Int) (hl : l.length ≤ 4611686018427387904) (k : Nat) (hk : l.length < k) : backfillref09_rises.f k l = some (decide (risesP (-1) l)) := rrises_loop l hl l.length k 0 (-1) (by omega) (by omega) hk

/-! ### words -/
def dat (l : List ByteArray) : List (List UInt8) := l.map (·.data.toList)
theorem dat_ofL (l : List (List UInt8)) : dat (l.map ofL) = l := by
  unfold dat
  rw [List.map_map]
  conv => rhs; rw [← List.map_id l]
  congr 1
theorem ofL_size (l : List UInt8) : (ofL l).size = l.length := by rw [← data_length, data_ofL]
theorem app_ofL (a b : ByteArray) : a ++ b = ofL (a.data.toList ++ b.data.toList) := by
  rw [← ofL_app, ofL_data, ofL_data]
theorem rdOf_get {l : List ByteArray} {i : Nat} (h : i < l.length) : rdOf ByteArray.empty l (i : Int) = l[i] := by
  unfold rdOf
  rw [Int.toNat_natCast, List.getD_eq_getElem?_getD, List.getElem?_eq_getElem h]
  rfl
theorem joinTail_cons (x : List UInt8) (r : List (List UInt8)) : joinTail [32] (x :: r) = 32 :: (x ++ joinTail [32] r) := by simp [joinTail]
theorem words_loop (l : List ByteArray) (hl : l.length ≤ 4611686018427387904) (d : Nat) : ∀ (k i : Nat) (x : ByteArray), 0 < i → l.length - i = d → i ≤ l.length → d < k → x.size + (joinTail [32] (dat (l.drop i))).length ≤ 4611686018427387904 →
    backfillref09_words.l0 k x l (l.length : Int) (i : Int) = some (x ++ ofL (joinTail [32] (dat (l.drop i)))) := by
  induction d with
  | zero =>
    intro k i x h0 h1 h2 h3 hb
    obtain ⟨k, rfl⟩ : ∃ m, k = m + 1 := ⟨k - 1, by omega⟩
    rw [backfillref09_words.l0, if_neg (by omega), List.drop_of_length_le (by omega), app_ofL, data_ofL]
    show some x = some (ofL (x.data.toList ++ []))
    rw [List.append_nil, ofL_data]
  | succ d ih =>
    intro k i x h0 h1 h2 h3 hb
    obtain ⟨k, rfl⟩ : ∃ m, k = m + 1 := ⟨k - 1, by omega⟩
    have hi : i < l.length := by omega
    rw [List.drop_eq_getElem_cons hi] at hb ⊢
    have e : dat (l[i] :: l.drop (i + 1)) = l[i].data.toList :: dat (l.drop (i + 1)) := rfl
    rw [e, joinTail_cons] at hb ⊢
    have hs : (x ++ (⟨#[32]⟩ : ByteArray)).size = x.size + 1 := by rw [ByteArray.size_append]; rfl
    have hd := data_length l[i]
    simp only [List.length_cons, List.length_append] at hb
    rw [backfillref09_words.l0, if_pos (by omega), if_pos (by omega), if_pos (by omega), if_pos (by omega), if_pos (by omega), rdOf_get hi, if_pos (by rw [hs]; omega), w64 hi hl,
      ih k (i + 1) _ (by omega) (by omega) (by omega) (by omega) (by rw [ByteArray.size_append, hs]; omega)]
    congr 1
    rw [app_ofL, app_ofL x (ofL _), data_ofL, data_ofL]
    congr 1
    simp
theorem words_f (l : List ByteArray) (hl : l.length ≤ 4611686018427387904) (hb : (join (dat l) [32]).length ≤ 4611686018427387904) (k : Nat) (hk : l.length < k) : backfillref09_words.f k l = some (ofL (join (dat l) [32])) := by
  obtain ⟨k, rfl⟩ : ∃ m, k = m + 1 := ⟨k - 1, by omega⟩
  unfold backfillref09_words.f
  cases l with
  | nil =>
    rw [backfillref09_words.l0, if_neg (by simp)]
    rfl
  | cons y r =>
    have e : dat (y :: r) = y.data.toList :: dat r := rfl
    rw [e, join_cons, List.length_append] at hb
    have hd := data_length y
    have h0 := words_loop (y :: r) hl r.length k 1 (⟨#[]⟩ ++ y) (by omega) (by simp) (by simp) (by simp at hk; omega) (by rw [ByteArray.size_append]; show 0 + y.size + (joinTail [32] (dat r)).length ≤ _; omega)
    rw [backfillref09_words.l0, if_pos (by first | (simp; done) | (simp; omega)), if_pos (by omega), if_pos (by first | (simp; done) | (simp; omega)), if_neg (by omega)]
    have hy : rdOf ByteArray.empty (y :: r) 0 = y := rfl
    rw [hy, if_pos (by show 0 + y.size ≤ _; omega), show wrap64 (0 + 1) = ((1 : Nat) : Int) from by unfold wrap64; omega, h0]
    congr 1
    rw [e, join_cons, app_ofL, app_ofL, data_ofL, data_ofL]
    rfl

/-! ### cut -/
theorem bt_get (s : ByteArray) (i : Nat) (c : UInt8) (h : s.data.toList[i]? = some c) : bt s (i : Int) = (c.toNat : Int) := by
  obtain ⟨h1, h2⟩ := List.getElem?_eq_some_iff.1 h
  have hl : i < s.size := by rw [← data_length]; exact h1
  unfold bt
  rw [dif_pos (by simpa using hl)]
  congr 2
def splB (by_ : UInt8) (cur : List UInt8) : List UInt8 → List (List UInt8)
  | [] => [cur]
  | c :: r => if c = by_ then cur :: splB by_ [] r else splB by_ (cur ++ [c]) r
theorem splB_A (l : List UInt8) : ∀ cur, splB 32 cur l = splA cur l := by
  induction l with
  | nil => intro cur; rfl
  | cons c r ih =>
    intro cur
    rw [splB, splA, ih, ih]
theorem cut_loop (s : ByteArray) (b : UInt8) (hs : s.size < 4398046511104) (d : Nat) : ∀ (k fr i : Nat) (acc : List ByteArray), s.size - i = d → i ≤ s.size → fr ≤ i → acc.length ≤ i → d < k →
    backfillref09_cut.l0 k s (b.toNat : Int) acc (fr : Int) (s.size : Int) (i : Int) = some (acc ++ (splB b ((s.data.toList.drop fr).take (i - fr)) (s.data.toList.drop i)).map ofL) := by
  induction d with
  | zero =>
    intro k fr i acc h1 h2 h3 h4 h5
    obtain ⟨k, rfl⟩ : ∃ m, k = m + 1 := ⟨k - 1, by omega⟩
    have hi : i = s.size := by omega
    have hdr : s.data.toList.drop i = [] := List.drop_of_length_le (by rw [data_length]; omega)
    rw [backfillref09_cut.l0, if_neg (by omega), if_pos (by omega), if_pos (by omega), if_pos (by omega), hdr, splB]
    simp only [Int.toNat_natCast, extract_ofL, hi]
    rfl
  | succ d ih =>
    intro k fr i acc h1 h2 h3 h4 h5
    obtain ⟨k, rfl⟩ : ∃ m, k = m + 1 := ⟨k - 1, by omega⟩
    have hl : i < s.data.toList.length := by rw [data_length]; omega
    have hb := bt_get s i _ (List.getElem?_eq_getElem hl)
    rw [List.drop_eq_getElem_cons hl]
    rw [backfillref09_cut.l0, if_pos (by omega), if_pos (by omega), if_pos (by omega), hb]
    rw [show wrap64 ((i : Int) + 1) = ((i + 1 : Nat) : Int) from by unfold wrap64; omega]
    generalize hc : s.data.toList[i] = c
    by_cases h32 : c = b
    · rw [if_pos (by rw [h32]), if_pos (by omega), if_pos (by omega), if_pos (by omega), if_pos (by omega), ih k (i + 1) (i + 1) _ (by omega) (by omega) (by omega) (by simp; omega) (by omega)]
      rw [splB, if_pos h32]
      simp only [Int.toNat_natCast, extract_ofL, Nat.sub_self, List.take_zero, List.map_cons, List.append_assoc, List.singleton_append]
    · have hne : ¬ (c.toNat : Int) = (b.toNat : Int) := fun e => h32 (UInt8.toNat_inj.1 (by omega))
      rw [if_neg hne, ih k fr (i + 1) acc (by omega) (by omega) (by omega) (by omega) (by omega), splB, if_neg h32]
      congr 4
      rw [show i + 1 - fr = (i - fr) + 1 from by omega, List.take_add_one]
      congr 1
      rw [List.getElem?_drop, show fr + (i - fr) = i from by omega, List.getElem?_eq_getElem hl, hc]
      rfl
theorem cut_f (s : ByteArray) (b : UInt8) (hs : s.size < 4398046511104) : backfillref09_cut.f (s.size + 1) s (b.toNat : Int) = some ((splB b [] s.data.toList).map ofL) := by
  unfold backfillref09_cut.f
  have := cut_loop s b hs s.size (s.size + 1) 0 0 [] (by omega) (by omega) (by omega) (by simp) (by omega)
  rw [Int.natCast_zero] at this
  rw [this]
  simp

/-! ### whole, number, read -/
def wRes (o : Option Nat) : Int × Bool := match o with
  | some v => ((v : Int), true)
  | none => (0, false)
theorem whole_loop (s : ByteArray) (hs : s.size ≤ 1000) (d : Nat) : ∀ (k i acc : Nat), s.size - i = d → i ≤ s.size → d < k → acc < 18446744073709551616 →
    backfillref09_whole.l0 k s (acc : Int) (s.size : Int) (i : Int) = some (wRes (wLoop acc (s.data.toList.drop i))) := by
  induction d with
  | zero =>
    intro k i acc h1 h2 h3 h4
    obtain ⟨k, rfl⟩ : ∃ m, k = m + 1 := ⟨k - 1, by omega⟩
    have hdr : s.data.toList.drop i = [] := List.drop_of_length_le (by rw [data_length]; omega)
    rw [backfillref09_whole.l0, if_neg (by omega), hdr]
    rfl
  | succ d ih =>
    intro k i acc h1 h2 h3 h4
    obtain ⟨k, rfl⟩ : ∃ m, k = m + 1 := ⟨k - 1, by omega⟩
    have hl : i < s.data.toList.length := by rw [data_length]; omega
    have hb := bt_get s i _ (List.getElem?_eq_getElem hl)
    rw [List.drop_eq_getElem_cons hl]
    rw [backfillref09_whole.l0, if_pos (by omega), if_pos (by omega), if_pos (by omega), hb]
    rw [show wrap64 ((i : Int) + 1) = ((i + 1 : Nat) : Int) from by unfold wrap64; omega]
    generalize hc : s.data.toList[i] = c
    have hcr : c.toNat < 256 := UInt8.toNat_lt c
    rw [wLoop]
    by_cases c1 : (c.toNat : Int) < 48
    · rw [if_pos c1, if_neg (by omega)]; rfl
    · rw [if_neg c1]
      by_cases c2 : (c.toNat : Int) > 57
      · rw [if_pos c2, if_neg (by omega)]; rfl
      · rw [if_neg c2]
        have e1 : IntKind.u64.wrap ((IntKind.u64.wrap (c.toNat : Int)) - 48) = ((c.toNat - 48 : Nat) : Int) := by
          simp only [IntKind.wrap, IntKind.min, IntKind.max, IntKind.signed, IntKind.bits]
          simp
          omega
        have e2 : IntKind.u64.wrap (Int.tdiv (IntKind.u64.wrap (18446744073709551615 - ((c.toNat - 48 : Nat) : Int))) 10) = (((18446744073709551615 - (c.toNat - 48)) / 10 : Nat) : Int) := by
          have e3 : IntKind.u64.wrap (18446744073709551615 - ((c.toNat - 48 : Nat) : Int)) = ((18446744073709551615 - (c.toNat - 48) : Nat) : Int) := by
            simp only [IntKind.wrap, IntKind.min, IntKind.max, IntKind.signed, IntKind.bits]
            simp
            omega
          rw [e3]
          have e4 : Int.tdiv ((18446744073709551615 - (c.toNat - 48) : Nat) : Int) 10 = (((18446744073709551615 - (c.toNat - 48)) / 10 : Nat) : Int) := rfl
          rw [e4]
          simp only [IntKind.wrap, IntKind.min, IntKind.max, IntKind.signed, IntKind.bits]
          simp
          omega
        rw [e1, e2]
        by_cases c3 : (acc : Int) > (((18446744073709551615 - (c.toNat - 48)) / 10 : Nat) : Int)
        · rw [if_pos c3, if_neg (by omega)]; rfl
        · rw [if_neg c3, if_pos (by omega)]
          have e5 : IntKind.u64.wrap ((IntKind.u64.wrap (10 * (acc : Int))) + ((c.toNat - 48 : Nat) : Int)) = ((acc * 10 + (c.toNat - 48) : Nat) : Int) := by
            simp only [IntKind.wrap, IntKind.min, IntKind.max, IntKind.signed, IntKind.bits]
            simp
            omega
          rw [e5, ih k (i + 1) _ (by omega) (by omega) (by omega) (by omega)]
theorem whole_f (s : ByteArray) (k : Nat) (hk : 22 < k) : backfillref09_whole.f k s = some (wRes (wholeP s.data.toList)) := by
  obtain ⟨k, rfl⟩ : ∃ m, k = m + 1 := ⟨k - 1, by omega⟩
  have hF : backfillref09_whole.j0 (k + 1) s true = some (0, false) := by simp [backfillref09_whole.j0]
  unfold backfillref09_whole.f wholeP
  rw [hF]
  have hd := data_length s
  by_cases h1 : (s.size : Int) < 1
  · rw [if_pos h1, if_pos (by omega)]; rfl
  · rw [if_neg h1]
    by_cases h2 : (s.size : Int) > 20
    · rw [if_pos h2, if_pos (by omega)]; rfl
    · rw [if_neg h2, if_pos (by omega)]
      have hl : 0 < s.data.toList.length := by omega
      have hb := bt_get s 0 _ (List.getElem?_eq_getElem hl)
      have hh : s.data.toList.head? = some s.data.toList[0] := by rw [List.head?_eq_getElem?, List.getElem?_eq_getElem hl]
      rw [Int.natCast_zero] at hb
      rw [hb, hh]
      have hw := whole_loop s (by omega) s.size k 0 0 (by omega) (by omega) (by omega) (by omega)
      rw [Int.natCast_zero, List.drop_zero] at hw
      generalize s.data.toList[0] = c
      by_cases h3 : (c.toNat : Int) = 48
      · have hc : c = 48 := UInt8.toNat_inj.1 (by show c.toNat = 48; omega)
        rw [if_pos h3]
        by_cases h4 : (s.size : Int) > 1
        · rw [decide_eq_true h4, hF, if_pos (.inr (.inr ⟨by rw [hc], by omega⟩))]; rfl
        · rw [decide_eq_false h4, if_neg (by rintro (h | h | h); omega; omega; exact h4 (by omega)), backfillref09_whole.j0, if_neg (by simp)]
          exact hw
      · rw [if_neg h3, if_neg (by rintro (h | h | ⟨h, _⟩); omega; omega; exact h3 (by injection h with h; rw [h]; rfl)), backfillref09_whole.j0, if_neg (by simp)]
        exact hw
def nRes (o : Option Int) : Int × Bool := match o with
  | some v => (v, true)
  | none => (0, false)
theorem number_f (s : ByteArray) (k : Nat) (hk : 24 < k) : backfillref09_number.f k s = some (nRes (numP s.data.toList)) := by
  obtain ⟨k, rfl⟩ : ∃ m, k = m + 2 := ⟨k - 2, by omega⟩
  have hd := data_length s
  have hw : ∀ t : ByteArray, backfillref09_whole.f (k + 1) t = some (wRes (wholeP t.data.toList)) := fun t => whole_f t (k + 1) (by omega)
  have hj1 : ∀ x : Int, backfillref09_number.j1 (k + 1) x true = some (0, false) := fun x => by simp [backfillref09_number.j1]
  have hj2 : ∀ x : Int, backfillref09_number.j1 (k + 1) x false = some (wrap64 (-(wrap64 x)), true) := fun x => by simp [backfillref09_number.j1]
  have hpl : s.data.toList.head? ≠ some 45 → backfillref09_number.j0 (k + 2) s false = some (nRes (numP s.data.toList)) := by
    intro hh
    unfold numP
    rw [if_neg hh, backfillref09_number.j0, if_neg (by simp), hw, Option.bind_some]
    cases hp : wholeP s.data.toList with
    | none => simp [wRes, nRes]
    | some v =>
      have hv := wholeP_lt hp
      have hr : wRes (some v) = ((v : Int), true) := rfl
      rw [hr]
      dsimp only
      rw [if_pos rfl]
      by_cases c : (v : Int) > 9223372036854775807
      · rw [if_pos c, if_neg (by omega)]; rfl
      · rw [if_neg c, if_pos (by omega)]
        simp only [nRes]
        rw [show wrap64 (v : Int) = (v : Int) from by unfold wrap64; omega]
  unfold backfillref09_number.f
  by_cases h0 : (s.size : Int) > 0
  · rw [if_pos h0, if_pos h0]
    have hl : 0 < s.data.toList.length := by omega
    have hb := bt_get s 0 _ (List.getElem?_eq_getElem hl)
    have hh : s.data.toList.head? = some s.data.toList[0] := by rw [List.head?_eq_getElem?, List.getElem?_eq_getElem hl]
    rw [Int.natCast_zero] at hb
    rw [hb]
    generalize s.data.toList[0] = c at hh hb
    by_cases h3 : (c.toNat : Int) = 45
    · have hc : c = 45 := UInt8.toNat_inj.1 (by show c.toNat = 45; omega)
      rw [show ((c.toNat : Int) == 45) = true from beq_iff_eq.2 h3]
      rw [hc] at hh
      have hx : (s.extract 1 s.size).data.toList = s.data.toList.tail := by
        rw [extract_ofL, data_ofL, ← hd, ← List.drop_one, List.take_of_length_le (by simp)]
      unfold numP
      rw [if_pos hh, backfillref09_number.j0, if_pos rfl, if_pos (by omega), hw, Option.bind_some, hx]
      cases hp : wholeP s.data.toList.tail with
      | none => simp [wRes, nRes, hj1]
      | some v =>
        have hv := wholeP_lt hp
        have hr : wRes (some v) = ((v : Int), true) := rfl
        rw [hr]
        dsimp only
        rw [if_pos rfl]
        by_cases c : (v : Int) < 1
        · rw [if_pos c, hj1, if_neg (by omega)]; rfl
        · rw [if_neg c]
          by_cases c' : (v : Int) > 9223372036854775808
          · rw [decide_eq_true c', hj1, if_neg (by omega)]; rfl
          · rw [decide_eq_false c', hj2, if_pos (by omega)]
            simp only [nRes]
            rw [show wrap64 (-(wrap64 (v : Int))) = -(v : Int) from by unfold wrap64; omega]
    · rw [show ((c.toNat : Int) == 45) = false from beq_eq_false_iff_ne.2 h3]
      exact hpl (by rw [hh]; intro e; injection e with e; exact h3 (by rw [e]; rfl))
  · rw [if_neg h0]
    have hn : s.data.toList = [] := List.length_eq_zero_iff.1 (by omega)
    exact hpl (by rw [hn]; simp)
def rRes (o : Option (List Int)) : List Int × Bool := match o with
  | some v => (v, true)
  | none => ([], false)
theorem read_loop (l : List ByteArray) (hl : l.length < 4398046511104) (d : Nat) : ∀ (k i : Nat) (acc : List Int), l.length - i = d → i ≤ l.length → d + 26 < k → acc.length ≤ i →
    backfillref09_read.l0 k acc l (l.length : Int) (i : Int) = some (rRes ((numsP (dat (l.drop i))).map (acc ++ ·))) := by
  induction d with
  | zero =>
    intro k i acc h1 h2 h3 h4
    obtain ⟨k, rfl⟩ : ∃ m, k = m + 1 := ⟨k - 1, by omega⟩
    rw [backfillref09_read.l0, if_neg (by omega), List.drop_of_length_le (by omega)]
    simp [dat, numsP, rRes]
  | succ d ih =>
    intro k i acc h1 h2 h3 h4
    obtain ⟨k, rfl⟩ : ∃ m, k = m + 1 := ⟨k - 1, by omega⟩
    have hi : i < l.length := by omega
    rw [List.drop_eq_getElem_cons hi]
    have e : dat (l[i] :: l.drop (i + 1)) = l[i].data.toList :: dat (l.drop (i + 1)) := rfl
    rw [e, backfillref09_read.l0, if_pos (by omega), if_pos (by omega), if_pos (by omega), rdOf_get hi, number_f _ k (by omega), Option.bind_some, numsP, w64 hi (by omega)]
    cases hp : numP l[i].data.toList with
    | none => simp [nRes, rRes]
    | some v =>
      simp only [nRes, if_true]
      rw [if_pos (by omega), ih k (i + 1) _ (by omega) (by omega) (by omega) (by simp; omega)]
      cases numsP (dat (l.drop (i + 1))) <;> simp [rRes]
theorem read_f (l : List ByteArray) (hl : l.length < 4398046511104) : backfillref09_read.f (l.length + 27) l = some (rRes (numsP (dat l))) := by
  unfold backfillref09_read.f
  have := read_loop l hl l.length (l.length + 27) 0 [] (by omega) (by omega) (by omega) (by simp)
  rw [Int.natCast_zero] at this
  rw [this, List.drop_zero]
  cases numsP (dat l) <;> simp

end Go.Proofs.YtokioddaonknpaaDoor.A
