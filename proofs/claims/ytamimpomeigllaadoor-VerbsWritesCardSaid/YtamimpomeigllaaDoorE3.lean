/- Own text: the walk of the law on what is written. -/
import Derived.Test.YtamimpomeigllaaDoorE2
namespace Go.Proofs.YtamimpomeigllaaDoor.V
open Go.RowKit Go.Proofs.YtamimpomeigllaaDoorW.PrintWords Go.Proofs.YtamimpomeigllaaDoor.PVerbsReads

set_option maxHeartbeats 8000000 in
set_option maxRecDepth 100000 in
theorem writes_any (c : Cmd) (w : World) (hE : Env w) (hW : Wf c) : Calls Tryd.prog 4 #[.agg (cells c)] w fun e w' => e = .returned (.bool true) ∧ Below w.heap.size w w' := by
  obtain ⟨t, code, hp⟩ : ∃ t code, printP c = (t, code) := ⟨_, _, rfl⟩
  have hA := fun W hE => print_any c W hE hW
  have hR := fun W => rprint_any c W hW
  rw [hp] at hA hR
  have HA := Lib.hid hA
  have HR := Lib.hid hR
  have HCa := Lib.hid (fun W => check_any c W)
  have HCb := Lib.hid (fun W => rcheck_any c W)
  have hc0 := alloc_cmd (w := w) rfl c
  have HC0 := Aside0.mk hc0
  have hB0 := (Below.refl w.heap.size w).alloc (Nat.le_refl _) (.cells (cells c) 24)
  have HB0 := Aside0.mk hB0
  clear hA hR hp hc0 hB0
  go_enter Tryd.func4, Tryd.ntmps4
  go_wp2_with (go_at_call 5; refine (shown_any _ (hE.below hE.n8 HB0.out)).mono ?_; rintro e w1 ⟨rfl, hb1⟩; refine Hid.out ?_)
  refine Lib.hid ?_
  have hC1 := cmd_below HC0.out hb1
  have HB1 := Aside0.mk (HB0.out.trans (hb1.mono HB0.out.size))
  obtain ⟨c0, c1, c2, c3, c4, c5, c6, c7, cf⟩ := cmd_cells hC1
  have HC1 := Aside0.mk hC1
  clear hC1 hb1 HC0 HB0
  go_wp2_with (go_at_call 10; refine (HA.out _ (hE.below hE.n8 HB1.out)).mono ?_; rintro e w2 ⟨rfl, hb2⟩; refine Hid.out ?_)
  refine Lib.hid ?_
  have hC2 := cmd_below HC1.out hb2
  have HB2 := Aside0.mk (HB1.out.trans (hb2.mono HB1.out.size))
  clear c0 c1 c2 c3 c4 c5 c6 c7 cf
  obtain ⟨c0, c1, c2, c3, c4, c5, c6, c7, cf⟩ := cmd_cells hC2
  have HC2 := Aside0.mk hC2
  clear hC2 hb2 HC1 HB1
  go_wp2_with (go_at_call 11; refine (HR.out _).mono ?_; rintro e w3 ⟨rfl, hb3⟩; refine Hid.out ?_)
  refine Lib.hid ?_
  have hC3 := cmd_below HC2.out hb3
  have HB3 := Aside0.mk (HB2.out.trans (hb3.mono HB2.out.size))
  clear c0 c1 c2 c3 c4 c5 c6 c7 cf
  obtain ⟨c0, c1, c2, c3, c4, c5, c6, c7, cf⟩ := cmd_cells hC3
  have HC3 := Aside0.mk hC3
  clear hC3 hb3 HC2 HB2
  go_wp2
  go_region_held3 (fun w' => w'.cell? ⟨w.heap.size, 0, none⟩ = some (.int .i64 c.kind) ∧ w'.cell? ⟨w.heap.size, 1, none⟩ = some (.string c.name) ∧ w'.cell? ⟨w.heap.size, 2, none⟩ = some (.string c.parent) ∧ w'.cell? ⟨w.heap.size, 3, none⟩ = some (.int .i64 c.shares) ∧ w'.cell? ⟨w.heap.size, 4, none⟩ = some (.int .i64 c.nodes) ∧ w'.cell? ⟨w.heap.size, 5, none⟩ = some (.int .i64 c.limit) ∧ w'.cell? ⟨w.heap.size, 6, none⟩ = some (.int .i64 c.job) ∧ w'.cell? ⟨w.heap.size, 7, none⟩ = some (.int .i64 c.ticks))
    (first | go_keep | (go_split_ands; refine ⟨?_, ?_, ?_, ?_, ?_, ?_, ?_, ?_⟩ <;> (refine (hb4.cell (p := ⟨w.heap.size, _, none⟩) ?_).trans ?_ <;> first | assumption | (exact World.block_lt_of_cell? _ _ ‹_›))))
    (first | (go_at_call 12; refine (HCa.out _).mono ?_; rintro e w4 ⟨rfl, hb4⟩) | (go_at_call 13; refine (HCb.out _).mono ?_; rintro e w4 ⟨rfl, hb4⟩))
  have hfirst : ∃ w5 : World, Below w3.drew.heap.size w3.drew w5 ∧ Below w5.heap.size w5 w4 := ⟨_, ‹_›, hb4⟩
  obtain ⟨w5, hb5, hb6⟩ := hfirst
  have hB5 := (HB3.out.drew).trans (hb5.mono HB3.out.size)
  have HB6 := Aside0.mk (hB5.trans (hb6.mono hB5.size))
  clear hb5 hb6 hB5
  go_wp2
  go_ret
  exact ⟨rfl, HB6.out⟩

end Go.Proofs.YtamimpomeigllaaDoor.V
