/- Own text: the walks of answers.numbers, of the reference's digits and all. -/
import Derived.Test.YtokioddaonknpaaDoorE1
import Derived.Lib.ItoaLen
namespace Go.Proofs.YtokioddaonknpaaDoor.A
open Go.RowKit Go.Proofs.YtokioddaonknpaaDoorW.PrintWords Go.Proofs.YtokioddaonknpaaDoor.PAnswersReads
set_option linter.unusedSimpArgs false

/-- Numbers, a blank ahead of each. -/
def numsL (l : List Int) : List UInt8 := Lib.joinTail [32] (l.map Lib.itoa)
theorem numsL_cons (n : Int) (l : List Int) : numsL (n :: l) = 32 :: (Lib.itoa n ++ numsL l) := joinTail_cons _ _
theorem numsL_snoc (l : List Int) (n : Int) : numsL (l ++ [n]) = numsL l ++ (32 :: Lib.itoa n) := by
  induction l with
  | nil => rw [List.nil_append, numsL_cons]; simp [numsL, Lib.joinTail]
  | cons m l ih => rw [List.cons_append, numsL_cons, numsL_cons, ih]; simp
theorem numsL_len (l : List Int) (h : ∀ n ∈ l, Rng n) : (numsL l).length ≤ 22 * l.length := by
  induction l with
  | nil => simp [numsL, Lib.joinTail]
  | cons n l ih =>
    rw [numsL_cons]
    have h1 := Lib.itoa_length_le n (h n (by simp)).1 (h n (by simp)).2
    have h2 := ih (fun m hm => h m (by simp [hm]))
    simp only [List.length_cons, List.length_append]
    omega
theorem nums_take {l : List Int} {j : Nat} (hj : j < l.length) : ofL (numsL (l.take (j + 1))) = ofL (numsL (l.take j)) ++ (⟨#[32]⟩ ++ ofL (Lib.itoa (l.getD j 0))) := by
  rw [List.take_add_one, List.getElem?_eq_getElem hj, List.getD_eq_getElem?_getD, List.getElem?_eq_getElem hj]
  show ofL (numsL (l.take j ++ [l[j]])) = _
  rw [numsL_snoc]
  have : (⟨#[32]⟩ : ByteArray) = ofL [32] := rfl
  rw [this, ofL_app, ofL_app]
  rfl
theorem getD_mem {l : List Int} {j : Nat} (hj : j < l.length) : l.getD j 0 ∈ l := by
  rw [List.getD_eq_getElem?_getD, List.getElem?_eq_getElem hj]
  exact List.getElem_mem hj

set_option maxHeartbeats 8000000 in
set_option maxRecDepth 100000 in
theorem numbers_any (A : Option Addr) (c : Nat) (l : List Int) (w : World) (hE : Env w) (hC : Kd.C (Kd.int .i64) w A l.length l) (_hc : l.length ≤ c) (hl : l.length ≤ 4294967296) (hr : ∀ n ∈ l, Rng n) :
    Calls Tryd.prog 17 #[.slice A l.length c] w fun e w' => e = .returned (.string (ofL (numsL l))) ∧ Below w.heap.size w w' := by
  have HC := Aside0.mk hC
  have HE := Aside0.mk hE
  have HR := Aside0.mk hr
  clear hC hE hr
  go_enter Tryd.func17, Tryd.ntmps17
  go_wp2
  go_loopw [3, 8] (fun sv i wr => ∃ (j : Nat) (s : ByteArray), j ≤ l.length ∧ i = .int .i64 j ∧ sv = .string s ∧ s.size ≤ 22 * j ∧ Aside0 (s = ofL (numsL (l.take j))) ∧ Aside0 (Below w.heap.size w wr)) (fun _ i _ => l.length - (intOf i).toNat)
  case atStart => exact ⟨0, ⟨#[]⟩, by omega, rfl, rfl, Nat.le_refl _, ⟨rfl⟩, ⟨Below.refl _ _⟩⟩
  case round =>
    obtain ⟨j, s, hj, rfl, rfl, hss, hS, hq⟩ := hrel
    by_cases hjl : j < l.length
    · have hjB : decide ((j : Int) < (l.length : Int)) = true := decide_eq_true (by omega)
      obtain ⟨ad, rfl, hc0⟩ := Kd.at_int (Kd.C_below HC.out hq.out) (j : Int) (by omega) (by omega)
      rw [Int.toNat_natCast] at hc0
      obtain ⟨n, hn⟩ : ∃ n, n = l.getD j 0 := ⟨_, rfl⟩
      have hcn : wr.cell? (ad.add j) = some (.int .i64 n) := hc0.trans (by rw [hn]; unfold rd; rw [Int.toNat_natCast])
      have hnr : Rng n := by rw [hn]; exact HR.out _ (getD_mem hjl)
      have hst : ofL (numsL (l.take (j + 1))) = s ++ (⟨#[32]⟩ ++ ofL (Lib.itoa n)) := by rw [nums_take hjl, hS.out, hn]
      obtain ⟨x, hx⟩ : ∃ x, x = ofL (Lib.itoa n) := ⟨_, rfl⟩
      have hxs : x.size ≤ 21 := by rw [hx, ofL_size]; exact Lib.itoa_length_le n hnr.1 hnr.2
      have hcs : (⟨#[32]⟩ ++ x : ByteArray).size = x.size + 1 := by rw [ByteArray.size_append]; show 1 + x.size = _; omega
      have hit := itoa_any n hnr wr (HE.out.step hq.out)
      rw [← hx] at hst hit
      have Hit := Lib.hid hit
      have Hst := Aside0.mk hst
      have hss2 : s.size ≤ 94489280512 := by omega
      clear hc0 hn hx hst hit hS
      go_wp2_with (go_at_call 42; refine Hit.out.mono ?_; rintro e w2 ⟨rfl, hb2⟩)
      go_roundw
      case rel => exact ⟨j + 1, s ++ (⟨#[32]⟩ ++ x), by omega, by go_num, rfl, by rw [ByteArray.size_append, hcs]; omega, ⟨Hst.out.symm⟩, ⟨hq.out.trans (hb2.mono hq.out.size)⟩⟩
      case measure => simp [intOf]; omega
    · have hjB : decide ((j : Int) < (l.length : Int)) = false := decide_eq_false (by omega)
      have hfin : s = ofL (numsL l) := by rw [hS.out, List.take_of_length_le (by omega)]
      go_wp2
      go_ret
      rw [hfin]
      exact ⟨rfl, hq.out⟩

theorem digits_any (n : Int) (hn : Rng n) (w : World) (hE : Env w) :
    Calls Tryd.prog 43 #[.int .i64 n] w fun e w' => e = .returned (.string (ofL (Lib.itoa n))) ∧ Below w.heap.size w w' := by
  have Hit := Lib.hid (itoa_any n hn w hE)
  go_enter Tryd.func43, Tryd.ntmps43
  go_wp2_with (go_at_call 42; refine Hit.out.mono ?_; rintro e w2 ⟨rfl, hb2⟩)
  go_ret
  exact ⟨rfl, hb2⟩

theorem infoS : (Tryd.prog.info? 9).map (fun i => (i.zero, i.size, i.bytes)) = some (some (.string ⟨#[]⟩), 1, 16) := by kernel_rfl
theorem infoI : (Tryd.prog.info? 3).map (fun i => (i.zero, i.size, i.bytes)) = some (some (.int .i64 0), 1, 8) := by kernel_rfl
theorem take_words {l : List Int} {j : Nat} (hj : j < l.length) : ((l.take (j + 1)).map fun n => ofL (Lib.itoa n)) = ((l.take j).map fun n => ofL (Lib.itoa n)) ++ [ofL (Lib.itoa (l.getD j 0))] := by
  rw [List.take_add_one, List.getElem?_eq_getElem hj, List.getD_eq_getElem?_getD, List.getElem?_eq_getElem hj]
  show ((l.take j ++ [l[j]]).map _) = _
  rw [List.map_append]
  rfl

set_option maxHeartbeats 8000000 in
set_option maxRecDepth 100000 in
theorem all_any (A : Option Addr) (c : Nat) (l : List Int) (w : World) (hE : Env w) (hC : Kd.C (Kd.int .i64) w A l.length l) (_hc : l.length ≤ c) (hl : l.length ≤ 4294967296) (hr : ∀ n ∈ l, Rng n) :
    Calls Tryd.prog 44 #[.slice A l.length c] w fun e w' => ∃ v, e = .returned v ∧ Kd.R Kd.string 9 w' w.heap.size (fun _ => True) v (l.map fun n => ofL (Lib.itoa n)) ∧ Below w.heap.size w w' := by
  have HC := Aside0.mk hC
  have HE := Aside0.mk hE
  have HR := Aside0.mk hr
  clear hC hE hr
  go_enter Tryd.func44, Tryd.ntmps44
  go_wp2
  go_loopw [3, 8] (fun sv i wr => ∃ (j : Nat) (acc : List ByteArray), j ≤ l.length ∧ i = .int .i64 j ∧ acc.length = j ∧ Aside0 (acc = (l.take j).map fun n => ofL (Lib.itoa n)) ∧ Aside0 (Kd.R Kd.string 9 wr w.heap.size (fun _ => True) sv acc) ∧ Aside0 (Below w.heap.size w wr)) (fun _ i _ => l.length - (intOf i).toNat)
  case atStart => exact ⟨0, [], by omega, rfl, rfl, ⟨rfl⟩, ⟨Kd.R_nil _ _ _ _ _⟩, ⟨Below.refl _ _⟩⟩
  case round =>
    obtain ⟨j, acc, hj, rfl, hal, hS, hO, hq⟩ := hrel
    by_cases hjl : j < l.length
    · have hjB : decide ((j : Int) < (l.length : Int)) = true := decide_eq_true (by omega)
      obtain ⟨ad, rfl, hc0⟩ := Kd.at_int (Kd.C_below HC.out hq.out) (j : Int) (by omega) (by omega)
      rw [Int.toNat_natCast] at hc0
      obtain ⟨n, hn⟩ : ∃ n, n = l.getD j 0 := ⟨_, rfl⟩
      have hcn : wr.cell? (ad.add j) = some (.int .i64 n) := hc0.trans (by rw [hn]; unfold rd; rw [Int.toNat_natCast])
      have hnr : Rng n := by rw [hn]; exact HR.out _ (getD_mem hjl)
      have hst : ((l.take (j + 1)).map fun n => ofL (Lib.itoa n)) = acc ++ [ofL (Lib.itoa n)] := by rw [take_words hjl, hS.out, hn]
      obtain ⟨x, hx⟩ : ∃ x, x = ofL (Lib.itoa n) := ⟨_, rfl⟩
      have hit := digits_any n hnr wr (HE.out.step hq.out)
      rw [← hx] at hst hit
      have Hit := Lib.hid hit
      have Hst := Aside0.mk hst
      clear hc0 hn hx hst hit hS
      go_wp2_with (first | (go_at_call 43; refine Hit.out.mono ?_; rintro e w2 ⟨rfl, hb2⟩; have HR6 := Aside0.mk (Kd.R_below hO.out hb2); have HB6 := Aside0.mk (hq.out.trans (hb2.mono hq.out.size)); clear hb2) | (at_builtin; refine Kd.R_append Kd.string (w0 := w) w.heap.size rfl (.tmp 12) (.tmp 15) 52 9 (.string ⟨#[]⟩) 16 rfl Tryd.underlying52 infoS rfl (by decide) (by omega) _ acc x [.string x] (fun _ => True) (fun _ => False) rfl ?aX ?aP (fun _ hk => hk.elim) ?aF ?aO ?aB ?aS ?aL ?_; (case aX => (first | rfl | (go_simp; done) | (go_simp; rfl))); (case aP => exact rfl); (case aF => exact (fun _ _ => trivial)); (case aO => exact HR6.out); (case aB => exact HB6.out); (case aS => exact HB6.out.size); (case aL => omega); intro v7 w7 ho7 hb7 hg7 hat7))
      go_roundw
      case rel => exact ⟨j + 1, acc ++ [x], by omega, by go_num, by simp; omega, ⟨Hst.out.symm⟩, ⟨ho7⟩, ⟨hb7⟩⟩
      case measure => simp [intOf]; omega
    · have hjB : decide ((j : Int) < (l.length : Int)) = false := decide_eq_false (by omega)
      have hfin : acc = l.map fun n => ofL (Lib.itoa n) := by rw [hS.out, List.take_of_length_le (by omega)]
      have HF := Aside0.mk hfin
      clear hfin hS
      go_wp2
      go_ret
      exact ⟨_, rfl, by rw [← HF.out]; exact hO.out, hq.out⟩

end Go.Proofs.YtokioddaonknpaaDoor.A
