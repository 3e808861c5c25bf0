/- Own text: the walks of the two laws. -/
import Derived.Test.YtamimpomeigllaaDoorE1
import Derived.Deep.RegionHeld3
namespace Go.Proofs.YtamimpomeigllaaDoor.V
open Go.RowKit Go.Proofs.YtamimpomeigllaaDoorW.PrintWords Go.Proofs.YtamimpomeigllaaDoor.PVerbsReads

theorem eqSelf (c : Cmd) : ∀ w : World, (Op.equalIn 10000 24 (.agg #[.int .i64 c.kind, .string c.name, .string c.parent, .int .i64 c.shares, .int .i64 c.nodes, .int .i64 c.limit, .int .i64 c.job, .int .i64 c.ticks]) (.agg #[.int .i64 c.kind, .string c.name, .string c.parent, .int .i64 c.shares, .int .i64 c.nodes, .int .i64 c.limit, .int .i64 c.job, .int .i64 c.ticks])).run Tryd.prog w = .ok true w := by
  intro w
  have := eq24 c c w
  rw [(eqC_iff _ _).2 ⟨rfl, rfl, rfl, rfl, rfl, rfl, rfl, rfl⟩] at this
  exact this
theorem agg_cells (c : Cmd) : Value.agg (cells c) = .agg #[.int .i64 c.kind, .string c.name, .string c.parent, .int .i64 c.shares, .int .i64 c.nodes, .int .i64 c.limit, .int .i64 c.job, .int .i64 c.ticks] := rfl

set_option maxHeartbeats 4000000 in
set_option maxRecDepth 100000 in
theorem reads_any (line : ByteArray) (w : World) (hE : Env w) (hs : line.size ≤ 140737488351232) : Calls Tryd.prog 3 #[.string line] w fun e w' => e = .returned (.bool true) ∧ Below w.heap.size w w' := by
  obtain ⟨c, code, hp⟩ : ∃ c code, parseP line = (c, code) := ⟨_, _, rfl⟩
  have hA := fun W hE => parse_any line W hE hs
  have hR := fun W => rparse_any line W hs
  rw [hp] at hA hR
  have HA := Lib.hid hA
  have HR := Lib.hid hR
  have heq := eqSelf c
  clear hA hR hp
  go_enter Tryd.func3, Tryd.ntmps3
  go_wp2_with (go_at_call 5; refine (shown_any _ hE).mono ?_; rintro e w1 ⟨rfl, hb1⟩; refine Hid.out ?_)
  refine Lib.hid ?_
  go_wp2_with (go_at_call 6; refine (HA.out _ (hE.below hE.n8 hb1)).mono ?_; rintro e w2 ⟨rfl, hb2⟩; refine Hid.out ?_)
  refine Lib.hid ?_
  have hB2 := hb1.trans (hb2.mono hb1.size)
  have HK3 := Aside0.mk (alloc_cmd (w := w2) rfl c)
  have HB2 := Aside0.mk (hB2.alloc hB2.size (.cells (cells c) 24))
  clear hb1 hb2 hB2
  simp only [agg_cells]
  go_wp2_with (go_at_call 7; refine (HR.out _).mono ?_; rintro e w3 ⟨rfl, hb3⟩; refine Hid.out ?_)
  refine Lib.hid ?_
  have hK4 := cmd_below HK3.out hb3
  have hB3 := HB2.out.trans (hb3.mono HB2.out.size)
  have HB3 := Aside0.mk (hB3.alloc hB3.size (.cells (cells c) 24))
  have hlt := blk_lt hK4
  obtain ⟨c0, c1, c2, c3, c4, c5, c6, c7, cf⟩ := cmd_cells hK4
  clear hb3 hK4 hB3 HK3 HB2
  simp only [agg_cells]
  go_wp2_with (first | (go_at_call 8; refine (valid_any _ _).mono ?_; rintro e w4 ⟨rfl, ⟨⟨n1, rfl⟩⟩⟩) | (go_at_call 9; refine (rvalid_any _ _).mono ?_; rintro e w4 ⟨rfl, ⟨⟨n2, rfl⟩⟩⟩))
  go_ret
  exact ⟨rfl, pw_below_drewN HB3.out _⟩

end Go.Proofs.YtamimpomeigllaaDoor.V
