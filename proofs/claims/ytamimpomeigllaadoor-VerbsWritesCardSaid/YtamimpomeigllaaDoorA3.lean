/- Own text: 'read' of package verbs at a field that is a number. -/
import Derived.Test.YtamimpomeigllaaDoorA2
import Derived.Outline
import Derived.Lib.AtoiAllCases
namespace Go.Proofs.YtamimpomeigllaaDoor.V
open Go.RowKit Go.Proofs.YtamimpomeigllaaDoorW.PrintWords

theorem num_cell {w : World} {b : Nat} {c : Cmd} (h : IsCmd w b c) (f : Int) : ∃ o : Int, w.cell? ⟨b, numOff f, none⟩ = some (.int .i64 o) := by
  have := fun i => blk_cell h i
  unfold numOff
  split
  · exact ⟨_, this 3⟩
  split
  · exact ⟨_, this 4⟩
  split
  · exact ⟨_, this 5⟩
  split
  · exact ⟨_, this 6⟩
  · exact ⟨_, this 7⟩

theorem itoa_any (n : Int) (h0 : -9223372036854775808 ≤ n) (h1 : n ≤ 9223372036854775807) (w : World) (hE : Env w) :
    Calls Tryd.prog 24 #[.int .i64 n] w fun e w' => e = .returned (.string ⟨(Lib.itoa n).toArray⟩) ∧ Below w.heap.size w w' := by
  refine (Tryd.strconv_Itoa n h0 h1 w hE.tab).mono ?_
  rintro e w' ⟨rfl, k, os, rfl⟩
  exact ⟨rfl, ⟨rfl, rfl, rfl, by rw [Sort.size_grow]; exact Nat.le_add_right _ _, fun i hi => Sort.heap_grow_old (w.drewN k) os hi⟩⟩

/-- strconv.Atoi, all three ways: the number, and whether there is an error -/
def AtoiPost (s : ByteArray) (w : World) (e : Ending) (w' : World) : Prop :=
  Below w.heap.size w w' ∧ ((∃ v, Lib.atoiAll s.data.toList = .ok v ∧ e = .returned (.tuple #[.int .i64 v, .nilIface])) ∨ (∃ N, (∀ v, Lib.atoiAll s.data.toList ≠ .ok v) ∧ e = .returned (.tuple #[.int .i64 (atoiV s), .iface 79 (.pointer (some ⟨N, 0, none⟩))])))
theorem atoi_any (s : ByteArray) (hs : s.size ≤ 281474976710656) (w : World) (hE : Env w) : Calls Tryd.prog 29 #[.string s] w (AtoiPost s w) := by
  cases h : Lib.atoiAll s.data.toList with
  | ok v =>
    refine (Tryd.strconv_Atoi_ok s (by omega) v h w).mono ?_
    rintro e w' ⟨rfl, hw⟩
    refine ⟨?_, .inl ⟨v, h, rfl⟩⟩
    rcases hw with rfl | ⟨t, rfl⟩
    · exact Below.refl _ _
    · exact bytes_below (Below.refl _ _) (Nat.le_refl _) _ _
  | range =>
    obtain ⟨tp, p, hv⟩ := hE.rng
    refine (Tryd.strconv_Atoi_range_var s hs h tp p w hv).mono ?_
    rintro e w' ⟨N, rfl, _, _, hb⟩
    refine ⟨hb, .inr ⟨N, by simp [h], ?_⟩⟩
    simp [atoiV, h]
  | _ =>
    obtain ⟨tp, p, hv⟩ := hE.syn
    refine (Any.strconv_Atoi_syntax_var Tryd.laysC172 s hs h tp p w hv).mono ?_
    rintro e w' ⟨N, rfl, _, _, hb⟩
    refine ⟨hb, .inr ⟨N, by simp [h], ?_⟩⟩
    simp [atoiV, h]
    rfl

theorem readN_fail {f : Int} {s : ByteArray} (hf : ¬ IsT f) (h : numB s = false) : readB f s = false := by unfold readB; rw [if_neg hf, h]
theorem numB_ok {s : ByteArray} {v : Int} (h : Lib.atoiAll s.data.toList = .ok v) : numB s = (decide (0 ≤ v) && (Lib.itoa v == s.toList)) := by unfold numB; rw [h]
theorem numB_not {s : ByteArray} (h : ∀ v, Lib.atoiAll s.data.toList ≠ .ok v) : numB s = false := by
  unfold numB
  split
  · rename_i v hv; exact absurd hv (h v)
  · rfl
theorem atoiV_ok {s : ByteArray} {v : Int} (h : Lib.atoiAll s.data.toList = .ok v) : atoiV s = v := by unfold atoiV; rw [h]

theorem readN_end {w w1 : World} {b : Nat} {c : Cmd} {f n : Int} {s : ByteArray} (hf : ¬ IsT f) (hc : IsCmd w b c) (hb : Below w.heap.size w w1) (hn : n = atoiV s) :
    IsCmd (w1.setCell ⟨b, numOff f, none⟩ (.int .i64 n)) b (readC c f s) ∧ w.grownBy (w1.setCell ⟨b, numOff f, none⟩ (.int .i64 n)) (some b) := by
  subst hn
  refine ⟨?_, grown_set (grown_below (grown_refl w _) hb) _ _⟩
  have := cmd_set (c' := readC c f s) (cmd_below hc hb) (numOff f) (.int .i64 (atoiV s)) (by unfold readC; rw [if_neg hf]; exact setN_cells _ _ _)
  exact this

set_option maxHeartbeats 2000000 in
theorem readN (b : Nat) (c : Cmd) (f : Int) (s : ByteArray) (w : World) (hc : IsCmd w b c) (hE : Env w) (h8 : 8 ≤ b) (hf : ¬ IsT f) (hs : s.size ≤ 281474976710656) :
    Calls Tryd.prog 16 #[.pointer (some ⟨b, 0, none⟩), .int .i64 f, .string s] w (ReadPost b c f s w) := by
  have HF := Lib.hid hf
  clear hf
  have HC := Lib.hid hc
  clear hc
  go_enter Tryd.func16, Tryd.ntmps16
  go_wp2_with (first | (go_at_call 23; refine (textN _ _ HF.out _).mono ?_; rintro e w1 ⟨rfl, rfl⟩))
  refine (atoi_any _ hs _ hE).mono ?_
  rintro e w1 ⟨hb, hcase⟩
  have hc1 := cmd_below HC.out hb
  obtain ⟨o, hcell⟩ := num_cell hc1 f
  have hfz : w1.frozen? ⟨b, numOff f, none⟩ = false := blk_frozen hc1 _
  rcases hcase with ⟨v, hv, rfl⟩ | ⟨N, hv, rfl⟩
  · have hE1 := Aside0.mk (hE.below hE.n8 hb)
    have hend := Aside0.mk (readN_end HF.out HC.out hb (atoiV_ok hv).symm)
    have hbd := Lib.atoiAll_bounds hv
    have hv2 := Aside0.mk hv
    have hb2 := Aside0.mk hb
    clear hv hb hc1
    by_cases h0 : 0 ≤ v
    · have h0b : decide (0 ≤ v) = true := decide_eq_true h0
      go_wp2_with (first | (go_at_call 25; refine (number_any _ _ _).mono ?_; rintro e w2 ⟨rfl, rfl⟩))
      refine (itoa_any v hbd.1 hbd.2 _ (hE1.out.grown h8 (grown_set (grown_refl _ _) _ _))).mono ?_
      rintro e w3 ⟨rfl, hb3⟩
      go_wp2
      go_ret
      refine ⟨?_, cmd_below hend.out.1 hb3, grown_below hend.out.2 hb3⟩
      unfold readB
      rw [if_neg HF.out, numB_ok hv2.out, h0b]
      rfl
    · have h0b : decide (0 ≤ v) = false := decide_eq_false h0
      go_wp2_with (first | (go_at_call 25; refine (number_any _ _ _).mono ?_; rintro e w2 ⟨rfl, rfl⟩))
      go_ret
      refine ⟨?_, hend.out.1, hend.out.2⟩
      unfold readB
      rw [if_neg HF.out, numB_ok hv2.out, h0b]
      rfl
  · have hE1 := Aside0.mk (hE.below hE.n8 hb)
    have hend := Aside0.mk (readN_end (n := atoiV s) HF.out HC.out hb rfl)
    have hv2 := Aside0.mk hv
    clear hv hb hc1
    go_wp2_with (first | (go_at_call 25; refine (number_any _ _ _).mono ?_; rintro e w2 ⟨rfl, rfl⟩))
    go_ret
    refine ⟨?_, hend.out.1, hend.out.2⟩
    unfold readB
    rw [if_neg HF.out, numB_not hv2.out]
    rfl

theorem read1 (b : Nat) (c : Cmd) (s : ByteArray) (w : World) (hc : IsCmd w b c) :
    Calls Tryd.prog 16 #[.pointer (some ⟨b, 0, none⟩), .int .i64 1, .string s] w (ReadPost b c 1 s w) := by
  have hcell : w.cell? ⟨b, 2, none⟩ = some (.string c.parent) := blk_cell hc 2
  have hfz : w.frozen? ⟨b, 2, none⟩ = false := blk_frozen hc 2
  have K := cmd_set (c' := setT c 1 s) hc 2 (.string s) rfl
  have HK := Aside0.mk K
  have HG := Aside0.mk (grown_set (grown_refl w (some b)) 2 (.string s))
  clear K hc
  go_enter Tryd.func16, Tryd.ntmps16
  go_wp2_with (first | (go_at_call 23; refine (text1 _ _).mono ?_; rintro e w1 ⟨rfl, rfl⟩) | (go_at_call 8; refine (valid_any _ _).mono ?_; rintro e w1 ⟨rfl, hd⟩))
  go_ret
  exact ⟨rfl, cmd_below HK.out (Drawn0.below hd), grown_below HG.out (Drawn0.below hd)⟩

theorem read_any (b : Nat) (c : Cmd) (f : Int) (s : ByteArray) (w : World) (hc : IsCmd w b c) (hE : Env w) (h8 : 8 ≤ b) (hs : s.size ≤ 281474976710656) :
    Calls Tryd.prog 16 #[.pointer (some ⟨b, 0, none⟩), .int .i64 f, .string s] w (ReadPost b c f s w) := by
  by_cases hf : IsT f
  · rcases hf with rfl | rfl
    · exact read0 b c s w hc
    · exact read1 b c s w hc
  · exact readN b c f s w hc hE h8 hf hs

end Go.Proofs.YtamimpomeigllaaDoor.V
