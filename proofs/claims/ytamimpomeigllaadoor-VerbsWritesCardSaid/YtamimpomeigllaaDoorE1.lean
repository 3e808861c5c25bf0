/- Own text: the document's examples. -/
import Derived.Test.YtamimpomeigllaaDoorD4
namespace Go.Proofs.YtamimpomeigllaaDoor.V
open Go.RowKit Go.Proofs.YtamimpomeigllaaDoorW.PrintWords Go.Proofs.YtamimpomeigllaaDoor.PVerbsReads

theorem sh1 : parseP ⟨#[115, 117, 98, 109, 105, 116, 32, 97, 32, 50, 32, 53]⟩ = (⟨1, ⟨#[97]⟩, ⟨#[]⟩, 0, 2, 5, 0, 0⟩, 0) := by kernel_rfl
theorem sh2 : parseP ⟨#[116, 105, 99, 107, 32, 48, 49]⟩ = (zeroC, 83) := by kernel_rfl
theorem sh3 : printP ⟨4, ⟨#[]⟩, ⟨#[]⟩, 0, 0, 0, 0, 3⟩ = (⟨#[116, 105, 99, 107, 32, 51]⟩, 0) := by kernel_rfl
theorem sh4 : checkP ⟨14, ⟨#[]⟩, ⟨#[]⟩, 0, 0, 0, 0, 0⟩ = 84 := by kernel_rfl
theorem sh5 : validB ⟨#[97, 45, 66, 95, 57]⟩ = true := by decide
theorem sh6 : validB ⟨#[97, 32, 98]⟩ = false := by decide


theorem shA (w : World) (hE : Env w) : Calls Tryd.prog 6 #[.string ⟨#[115, 117, 98, 109, 105, 116, 32, 97, 32, 50, 32, 53]⟩] w fun e w' => e = .returned (.tuple #[(.agg #[.int .i64 1, .string ⟨#[97]⟩, .string ⟨#[]⟩, .int .i64 0, .int .i64 2, .int .i64 5, .int .i64 0, .int .i64 0] : Value), .int .i64 0]) ∧ Below w.heap.size w w' := by
  have := parse_any _ w hE (show (⟨#[115, 117, 98, 109, 105, 116, 32, 97, 32, 50, 32, 53]⟩ : ByteArray).size ≤ 140737488351232 by decide)
  rw [sh1] at this
  exact this
theorem shB (w : World) (hE : Env w) : Calls Tryd.prog 6 #[.string ⟨#[116, 105, 99, 107, 32, 48, 49]⟩] w fun e w' => e = .returned (.tuple #[(.agg #[.int .i64 0, .string ⟨#[]⟩, .string ⟨#[]⟩, .int .i64 0, .int .i64 0, .int .i64 0, .int .i64 0, .int .i64 0] : Value), .int .i64 83]) ∧ Below w.heap.size w w' := by
  have := parse_any _ w hE (show (⟨#[116, 105, 99, 107, 32, 48, 49]⟩ : ByteArray).size ≤ 140737488351232 by decide)
  rw [sh2] at this
  exact this
theorem wf3 : Wf ⟨4, ⟨#[]⟩, ⟨#[]⟩, 0, 0, 0, 0, 3⟩ := ⟨fun f => by
  unfold getN
  dsimp only
  repeat' split
  all_goals omega⟩
theorem shC (w : World) (hE : Env w) : Calls Tryd.prog 10 #[(.agg #[.int .i64 4, .string ⟨#[]⟩, .string ⟨#[]⟩, .int .i64 0, .int .i64 0, .int .i64 0, .int .i64 0, .int .i64 3] : Value)] w fun e w' => e = .returned (.tuple #[.string ⟨#[116, 105, 99, 107, 32, 51]⟩, .int .i64 0]) ∧ Below w.heap.size w w' := by
  have := print_any ⟨4, ⟨#[]⟩, ⟨#[]⟩, 0, 0, 0, 0, 3⟩ w hE wf3
  rw [sh3] at this
  exact this
theorem shD (w : World) : Calls Tryd.prog 12 #[(.agg #[.int .i64 14, .string ⟨#[]⟩, .string ⟨#[]⟩, .int .i64 0, .int .i64 0, .int .i64 0, .int .i64 0, .int .i64 0] : Value)] w fun e w' => e = .returned (.int .i64 84) ∧ Below w.heap.size w w' := by
  have := check_any ⟨14, ⟨#[]⟩, ⟨#[]⟩, 0, 0, 0, 0, 0⟩ w
  rw [sh4] at this
  exact this
theorem shE (w : World) : Calls Tryd.prog 8 #[.string ⟨#[97, 45, 66, 95, 57]⟩] w fun e w' => e = .returned (.bool true) ∧ Drawn0 w w' := by
  have := valid_any ⟨#[97, 45, 66, 95, 57]⟩ w
  rw [sh5] at this
  exact this
theorem shF (w : World) : Calls Tryd.prog 8 #[.string ⟨#[97, 32, 98]⟩] w fun e w' => e = .returned (.bool false) ∧ Drawn0 w w' := by
  have := valid_any ⟨#[97, 32, 98]⟩ w
  rw [sh6] at this
  exact this
theorem eqK : ∀ w : World, (Op.equalIn 10000 24 (.agg #[.int .i64 1, .string ⟨#[97]⟩, .string ⟨#[]⟩, .int .i64 0, .int .i64 2, .int .i64 5, .int .i64 0, .int .i64 0] : Value) (.agg #[.int .i64 1, .string ⟨#[97]⟩, .string ⟨#[]⟩, .int .i64 0, .int .i64 2, .int .i64 5, .int .i64 0, .int .i64 0] : Value)).run Tryd.prog w = .ok true w := by
  intro w
  have := eq24 ⟨1, ⟨#[97]⟩, ⟨#[]⟩, 0, 2, 5, 0, 0⟩ ⟨1, ⟨#[97]⟩, ⟨#[]⟩, 0, 2, 5, 0, 0⟩ w
  rw [(eqC_iff _ _).2 ⟨rfl, rfl, rfl, rfl, rfl, rfl, rfl, rfl⟩] at this
  exact this

set_option maxHeartbeats 4000000 in
set_option maxRecDepth 100000 in
theorem shown_any (w : World) (hE : Env w) : Calls Tryd.prog 5 #[] w fun e w' => e = .returned (.bool true) ∧ Below w.heap.size w w' := by
  have heq := eqK
  go_enter Tryd.func5, Tryd.ntmps5
  go_wp2_with (go_at_call 6; refine (shA _ hE).mono ?_; rintro e w1 ⟨rfl, hb1⟩; refine Hid.out ?_)
  refine Lib.hid ?_
  have hK1 := alloc_cmd (w := w1) rfl ⟨1, ⟨#[97]⟩, ⟨#[]⟩, 0, 2, 5, 0, 0⟩
  have hB1 := hb1.alloc hb1.size (.cells (cells ⟨1, ⟨#[97]⟩, ⟨#[]⟩, 0, 2, 5, 0, 0⟩) 24)
  have HK1 := Aside0.mk hK1
  have HB1 := Aside0.mk hB1
  clear hK1 hB1 hb1
  go_wp2_with (go_at_call 6; refine (shB _ (hE.below hE.n8 HB1.out)).mono ?_; rintro e w2 ⟨rfl, hb2⟩; refine Hid.out ?_)
  refine Lib.hid ?_
  have HK2 := Aside0.mk (cmd_below HK1.out hb2)
  have hB2 := HB1.out.trans (hb2.mono HB1.out.size)
  have HK3 := Aside0.mk (cmd_below HK2.out ((Below.refl _ _).alloc (Nat.le_refl _) (.cells (cells zeroC) 24)))
  have HB2 := Aside0.mk (hB2.alloc hB2.size (.cells (cells zeroC) 24))
  clear hB2 hb2 HK2 HK1 HB1
  go_wp2_with (go_at_call 10; refine (shC _ (hE.below hE.n8 HB2.out)).mono ?_; rintro e w3 ⟨rfl, hb3⟩; refine Hid.out ?_)
  refine Lib.hid ?_
  have hK4 := cmd_below HK3.out hb3
  have HB3 := Aside0.mk (HB2.out.trans (hb3.mono HB2.out.size))
  obtain ⟨c0, c1, c2, c3, c4, c5, c6, c7, cf⟩ := cmd_cells hK4
  clear hK4 hb3 HK3 HB2
  go_wp2_with (first | (go_at_call 12; refine (shD _).mono ?_; rintro e w4 ⟨rfl, hb4⟩; refine Hid.out ?_) | fail)
  refine Lib.hid ?_
  have HB4 := Aside0.mk (HB3.out.trans (hb4.mono HB3.out.size))
  clear hb4 HB3
  go_wp2_with (go_at_call 8; refine (shE _).mono ?_; rintro e w5 ⟨rfl, ⟨⟨n1, rfl⟩⟩⟩; refine Hid.out ?_)
  refine Lib.hid ?_
  go_wp2_with (go_at_call 8; refine (shF _).mono ?_; rintro e w5 ⟨rfl, ⟨⟨n2, rfl⟩⟩⟩; refine Hid.out ?_)
  refine Lib.hid ?_
  go_wp2
  go_ret
  exact ⟨rfl, pw_below_drewN HB4.out _⟩

end Go.Proofs.YtamimpomeigllaaDoor.V
