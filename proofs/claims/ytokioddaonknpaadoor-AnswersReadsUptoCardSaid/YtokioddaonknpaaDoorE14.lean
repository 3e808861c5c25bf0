/- Own text (printed by gen14.py): the walk of the reference's Event. -/
import Derived.Test.YtokioddaonknpaaDoorE13
namespace Go.Proofs.YtokioddaonknpaaDoor.A
open Go.RowKit Go.Proofs.YtokioddaonknpaaDoorW.PrintWords Go.Proofs.YtokioddaonknpaaDoor.PAnswersReads
set_option linter.unusedSimpArgs false
set_option linter.unusedVariables false

set_option maxHeartbeats 8000000 in
set_option maxRecDepth 100000 in
theorem rev_l0 (k jb tm nd lm : Int) (l : List Int) (A : Option Addr) (c : Nat) (w : World) (ko jo uo no mo : Int) (lo : List Int) (ws : List ByteArray) (t : List UInt8) (hE : Env w) (hO : ∀ W, Env W → Kd.C (Kd.int .i64) W A l.length l → Calls Tryd.prog 19 #[.agg #[.int .i64 k, .int .i64 jb, .int .i64 tm, .int .i64 nd, .int .i64 lm, .slice A l.length c]] W (fun x w' => ∃ A1 c1 A2 c2, x = .returned (.tuple #[.agg #[.int .i64 ko, .int .i64 jo, .int .i64 uo, .int .i64 no, .int .i64 mo, .slice A1 lo.length c1], .slice A2 ws.length c2]) ∧ ws.length ≤ c2 ∧ lo.length ≤ c1 ∧ Kd.C (Kd.int .i64) w' A1 lo.length lo ∧ Kd.C Kd.string w' A2 ws.length ws ∧ Below W.heap.size W w')) (hC : Kd.C (Kd.int .i64) w A l.length l)
    (f0 : ((ws.length : Int) == 0) = true) :
    Calls Tryd.prog 8 #[.agg #[.int .i64 k, .int .i64 jb, .int .i64 tm, .int .i64 nd, .int .i64 lm, .slice A l.length c]] w fun x w' => x = .returned (.tuple #[.string ⟨#[]⟩, .int .i64 90]) ∧ Below w.heap.size w w' := by
  have HO := Lib.hid hO
  have HC := Aside0.mk hC
  have hB0 := (Below.refl w.heap.size w).alloc (Nat.le_refl _) (.cells (evCells ⟨k, jb, tm, nd, lm, l⟩ A c) 24)
  have HC0 := Aside0.mk (Kd.C_below hC hB0)
  have HE0 := Aside0.mk (hE.step hB0)
  have HB0 := Aside0.mk hB0
  have HI0 := Aside0.mk (alloc_ev (w := w) rfl ⟨k, jb, tm, nd, lm, l⟩ A c)
  clear hO hC hE hB0
  go_enter Tryd.func8, Tryd.ntmps8
  go_wp2_with (first
    | (go_at_call 19; refine Calls.mono (HO.out _ HE0.out HC0.out) ?_; rintro x w1 ⟨A1, c1, A2, c2, rfl, hc2, hc1, hC1, hC2, hb1⟩; have HC1 := Aside0.mk hC1; have Hc1 := Aside0.mk hc1; have HC2 := Aside0.mk hC2; have Hc2 := Aside0.mk hc2; have HCl := Aside0.mk (Kd.C_below HC0.out hb1); have HB := Aside0.mk (HB0.out.trans (hb1.mono HB0.out.size)); have HI := Aside0.mk (ev_below HI0.out hb1); clear hc2 hc1 hC1 hC2 hb1; obtain ⟨c0, c1', c2', c3, c4, c5, cf⟩ := ev_cells HI.out; have hlt := blk_lt HI.out; (try dsimp only at c0 c1' c2' c3 c4 c5)))
  go_ret2
  first | exact ⟨rfl, HB.out⟩ | exact ⟨rfl, below_alloc HB.out _⟩

set_option maxHeartbeats 8000000 in
set_option maxRecDepth 100000 in
theorem rev_bs (k jb tm nd lm : Int) (l : List Int) (A : Option Addr) (c : Nat) (w : World) (ko jo uo no mo : Int) (lo : List Int) (ws : List ByteArray) (t : List UInt8) (hE : Env w) (hO : ∀ W, Env W → Kd.C (Kd.int .i64) W A l.length l → Calls Tryd.prog 19 #[.agg #[.int .i64 k, .int .i64 jb, .int .i64 tm, .int .i64 nd, .int .i64 lm, .slice A l.length c]] W (fun x w' => ∃ A1 c1 A2 c2, x = .returned (.tuple #[.agg #[.int .i64 ko, .int .i64 jo, .int .i64 uo, .int .i64 no, .int .i64 mo, .slice A1 lo.length c1], .slice A2 ws.length c2]) ∧ ws.length ≤ c2 ∧ lo.length ≤ c1 ∧ Kd.C (Kd.int .i64) w' A1 lo.length lo ∧ Kd.C Kd.string w' A2 ws.length ws ∧ Below W.heap.size W w')) (hC : Kd.C (Kd.int .i64) w A l.length l)
    (hS : ∀ W A1 c1, Kd.C (Kd.int .i64) W A1 lo.length lo → lo.length ≤ c1 → Kd.C (Kd.int .i64) W A l.length l → Calls Tryd.prog 20 #[.agg #[.int .i64 ko, .int .i64 jo, .int .i64 uo, .int .i64 no, .int .i64 mo, .slice A1 lo.length c1], .agg #[.int .i64 k, .int .i64 jb, .int .i64 tm, .int .i64 nd, .int .i64 lm, .slice A l.length c]] W fun e w' => e = .returned (.bool false) ∧ Below W.heap.size W w')
    (f0 : ((ws.length : Int) == 0) = false) :
    Calls Tryd.prog 8 #[.agg #[.int .i64 k, .int .i64 jb, .int .i64 tm, .int .i64 nd, .int .i64 lm, .slice A l.length c]] w fun x w' => x = .returned (.tuple #[.string ⟨#[]⟩, .int .i64 90]) ∧ Below w.heap.size w w' := by
  have HO := Lib.hid hO
  have HS := Lib.hid hS
  have HC := Aside0.mk hC
  have hB0 := (Below.refl w.heap.size w).alloc (Nat.le_refl _) (.cells (evCells ⟨k, jb, tm, nd, lm, l⟩ A c) 24)
  have HC0 := Aside0.mk (Kd.C_below hC hB0)
  have HE0 := Aside0.mk (hE.step hB0)
  have HB0 := Aside0.mk hB0
  have HI0 := Aside0.mk (alloc_ev (w := w) rfl ⟨k, jb, tm, nd, lm, l⟩ A c)
  clear hO hS hC hE hB0
  go_enter Tryd.func8, Tryd.ntmps8
  go_wp2_with (first
    | (go_at_call 19; refine Calls.mono (HO.out _ HE0.out HC0.out) ?_; rintro x w1 ⟨A1, c1, A2, c2, rfl, hc2, hc1, hC1, hC2, hb1⟩; have HC1 := Aside0.mk hC1; have Hc1 := Aside0.mk hc1; have HC2 := Aside0.mk hC2; have Hc2 := Aside0.mk hc2; have HCl := Aside0.mk (Kd.C_below HC0.out hb1); have HB := Aside0.mk (HB0.out.trans (hb1.mono HB0.out.size)); have HI := Aside0.mk (ev_below HI0.out hb1); clear hc2 hc1 hC1 hC2 hb1; obtain ⟨c0, c1', c2', c3, c4, c5, cf⟩ := ev_cells HI.out; have hlt := blk_lt HI.out; (try dsimp only at c0 c1' c2' c3 c4 c5))
    | (go_at_call 20; refine Calls.mono (HS.out _ A1 c1 (Kd.C_alloc HC1.out _) Hc1.out (Kd.C_alloc HCl.out _)) ?_; rintro x w2 ⟨rfl, hb2'⟩; have hb2 := (below_alloc (Below.refl _ w1) (.cells #[.int .i64 ko, .int .i64 jo, .int .i64 uo, .int .i64 no, .int .i64 mo, .slice A1 lo.length c1] 24)).trans (hb2'.mono (Nat.le_of_lt (by simp))); clear hb2'; clear c0 c1' c2' c3 c4 c5 cf hlt; replace HC2 := Aside0.mk (Kd.C_below HC2.out hb2); replace HCl := Aside0.mk (Kd.C_below HCl.out hb2); replace HB := Aside0.mk (HB.out.trans (hb2.mono HB.out.size)); replace HI := Aside0.mk (ev_below HI.out hb2); clear hb2; obtain ⟨c0, c1', c2', c3, c4, c5, cf⟩ := ev_cells HI.out; have hlt := blk_lt HI.out; (try dsimp only at c0 c1' c2' c3 c4 c5)))
  go_ret2
  first | exact ⟨rfl, HB.out⟩ | exact ⟨rfl, below_alloc HB.out _⟩

set_option maxHeartbeats 8000000 in
set_option maxRecDepth 100000 in
theorem rev_jb (k jb tm nd lm : Int) (l : List Int) (A : Option Addr) (c : Nat) (w : World) (ko jo uo no mo : Int) (lo : List Int) (ws : List ByteArray) (t : List UInt8) (hE : Env w) (hO : ∀ W, Env W → Kd.C (Kd.int .i64) W A l.length l → Calls Tryd.prog 19 #[.agg #[.int .i64 k, .int .i64 jb, .int .i64 tm, .int .i64 nd, .int .i64 lm, .slice A l.length c]] W (fun x w' => ∃ A1 c1 A2 c2, x = .returned (.tuple #[.agg #[.int .i64 ko, .int .i64 jo, .int .i64 uo, .int .i64 no, .int .i64 mo, .slice A1 lo.length c1], .slice A2 ws.length c2]) ∧ ws.length ≤ c2 ∧ lo.length ≤ c1 ∧ Kd.C (Kd.int .i64) w' A1 lo.length lo ∧ Kd.C Kd.string w' A2 ws.length ws ∧ Below W.heap.size W w')) (hC : Kd.C (Kd.int .i64) w A l.length l)
    (hS : ∀ W A1 c1, Kd.C (Kd.int .i64) W A1 lo.length lo → lo.length ≤ c1 → Kd.C (Kd.int .i64) W A l.length l → Calls Tryd.prog 20 #[.agg #[.int .i64 ko, .int .i64 jo, .int .i64 uo, .int .i64 no, .int .i64 mo, .slice A1 lo.length c1], .agg #[.int .i64 k, .int .i64 jb, .int .i64 tm, .int .i64 nd, .int .i64 lm, .slice A l.length c]] W fun e w' => e = .returned (.bool true) ∧ Below W.heap.size W w')
    (f0 : ((ws.length : Int) == 0) = false) (f2 : decide (jb < 0) = true) :
    Calls Tryd.prog 8 #[.agg #[.int .i64 k, .int .i64 jb, .int .i64 tm, .int .i64 nd, .int .i64 lm, .slice A l.length c]] w fun x w' => x = .returned (.tuple #[.string ⟨#[]⟩, .int .i64 90]) ∧ Below w.heap.size w w' := by
  have HO := Lib.hid hO
  have HS := Lib.hid hS
  have HC := Aside0.mk hC
  have hB0 := (Below.refl w.heap.size w).alloc (Nat.le_refl _) (.cells (evCells ⟨k, jb, tm, nd, lm, l⟩ A c) 24)
  have HC0 := Aside0.mk (Kd.C_below hC hB0)
  have HE0 := Aside0.mk (hE.step hB0)
  have HB0 := Aside0.mk hB0
  have HI0 := Aside0.mk (alloc_ev (w := w) rfl ⟨k, jb, tm, nd, lm, l⟩ A c)
  clear hO hS hC hE hB0
  go_enter Tryd.func8, Tryd.ntmps8
  go_wp2_with (first
    | (go_at_call 19; refine Calls.mono (HO.out _ HE0.out HC0.out) ?_; rintro x w1 ⟨A1, c1, A2, c2, rfl, hc2, hc1, hC1, hC2, hb1⟩; have HC1 := Aside0.mk hC1; have Hc1 := Aside0.mk hc1; have HC2 := Aside0.mk hC2; have Hc2 := Aside0.mk hc2; have HCl := Aside0.mk (Kd.C_below HC0.out hb1); have HB := Aside0.mk (HB0.out.trans (hb1.mono HB0.out.size)); have HI := Aside0.mk (ev_below HI0.out hb1); clear hc2 hc1 hC1 hC2 hb1; obtain ⟨c0, c1', c2', c3, c4, c5, cf⟩ := ev_cells HI.out; have hlt := blk_lt HI.out; (try dsimp only at c0 c1' c2' c3 c4 c5))
    | (go_at_call 20; refine Calls.mono (HS.out _ A1 c1 (Kd.C_alloc HC1.out _) Hc1.out (Kd.C_alloc HCl.out _)) ?_; rintro x w2 ⟨rfl, hb2'⟩; have hb2 := (below_alloc (Below.refl _ w1) (.cells #[.int .i64 ko, .int .i64 jo, .int .i64 uo, .int .i64 no, .int .i64 mo, .slice A1 lo.length c1] 24)).trans (hb2'.mono (Nat.le_of_lt (by simp))); clear hb2'; clear c0 c1' c2' c3 c4 c5 cf hlt; replace HC2 := Aside0.mk (Kd.C_below HC2.out hb2); replace HCl := Aside0.mk (Kd.C_below HCl.out hb2); replace HB := Aside0.mk (HB.out.trans (hb2.mono HB.out.size)); replace HI := Aside0.mk (ev_below HI.out hb2); clear hb2; obtain ⟨c0, c1', c2', c3, c4, c5, cf⟩ := ev_cells HI.out; have hlt := blk_lt HI.out; (try dsimp only at c0 c1' c2' c3 c4 c5)))
  go_ret2
  first | exact ⟨rfl, HB.out⟩ | exact ⟨rfl, below_alloc HB.out _⟩

set_option maxHeartbeats 8000000 in
set_option maxRecDepth 100000 in
theorem rev_tm (k jb tm nd lm : Int) (l : List Int) (A : Option Addr) (c : Nat) (w : World) (ko jo uo no mo : Int) (lo : List Int) (ws : List ByteArray) (t : List UInt8) (hE : Env w) (hO : ∀ W, Env W → Kd.C (Kd.int .i64) W A l.length l → Calls Tryd.prog 19 #[.agg #[.int .i64 k, .int .i64 jb, .int .i64 tm, .int .i64 nd, .int .i64 lm, .slice A l.length c]] W (fun x w' => ∃ A1 c1 A2 c2, x = .returned (.tuple #[.agg #[.int .i64 ko, .int .i64 jo, .int .i64 uo, .int .i64 no, .int .i64 mo, .slice A1 lo.length c1], .slice A2 ws.length c2]) ∧ ws.length ≤ c2 ∧ lo.length ≤ c1 ∧ Kd.C (Kd.int .i64) w' A1 lo.length lo ∧ Kd.C Kd.string w' A2 ws.length ws ∧ Below W.heap.size W w')) (hC : Kd.C (Kd.int .i64) w A l.length l)
    (hS : ∀ W A1 c1, Kd.C (Kd.int .i64) W A1 lo.length lo → lo.length ≤ c1 → Kd.C (Kd.int .i64) W A l.length l → Calls Tryd.prog 20 #[.agg #[.int .i64 ko, .int .i64 jo, .int .i64 uo, .int .i64 no, .int .i64 mo, .slice A1 lo.length c1], .agg #[.int .i64 k, .int .i64 jb, .int .i64 tm, .int .i64 nd, .int .i64 lm, .slice A l.length c]] W fun e w' => e = .returned (.bool true) ∧ Below W.heap.size W w')
    (f0 : ((ws.length : Int) == 0) = false) (f2 : decide (jb < 0) = false) (f3 : decide (tm < 0) = true) :
    Calls Tryd.prog 8 #[.agg #[.int .i64 k, .int .i64 jb, .int .i64 tm, .int .i64 nd, .int .i64 lm, .slice A l.length c]] w fun x w' => x = .returned (.tuple #[.string ⟨#[]⟩, .int .i64 90]) ∧ Below w.heap.size w w' := by
  have HO := Lib.hid hO
  have HS := Lib.hid hS
  have HC := Aside0.mk hC
  have hB0 := (Below.refl w.heap.size w).alloc (Nat.le_refl _) (.cells (evCells ⟨k, jb, tm, nd, lm, l⟩ A c) 24)
  have HC0 := Aside0.mk (Kd.C_below hC hB0)
  have HE0 := Aside0.mk (hE.step hB0)
  have HB0 := Aside0.mk hB0
  have HI0 := Aside0.mk (alloc_ev (w := w) rfl ⟨k, jb, tm, nd, lm, l⟩ A c)
  clear hO hS hC hE hB0
  go_enter Tryd.func8, Tryd.ntmps8
  go_wp2_with (first
    | (go_at_call 19; refine Calls.mono (HO.out _ HE0.out HC0.out) ?_; rintro x w1 ⟨A1, c1, A2, c2, rfl, hc2, hc1, hC1, hC2, hb1⟩; have HC1 := Aside0.mk hC1; have Hc1 := Aside0.mk hc1; have HC2 := Aside0.mk hC2; have Hc2 := Aside0.mk hc2; have HCl := Aside0.mk (Kd.C_below HC0.out hb1); have HB := Aside0.mk (HB0.out.trans (hb1.mono HB0.out.size)); have HI := Aside0.mk (ev_below HI0.out hb1); clear hc2 hc1 hC1 hC2 hb1; obtain ⟨c0, c1', c2', c3, c4, c5, cf⟩ := ev_cells HI.out; have hlt := blk_lt HI.out; (try dsimp only at c0 c1' c2' c3 c4 c5))
    | (go_at_call 20; refine Calls.mono (HS.out _ A1 c1 (Kd.C_alloc HC1.out _) Hc1.out (Kd.C_alloc HCl.out _)) ?_; rintro x w2 ⟨rfl, hb2'⟩; have hb2 := (below_alloc (Below.refl _ w1) (.cells #[.int .i64 ko, .int .i64 jo, .int .i64 uo, .int .i64 no, .int .i64 mo, .slice A1 lo.length c1] 24)).trans (hb2'.mono (Nat.le_of_lt (by simp))); clear hb2'; clear c0 c1' c2' c3 c4 c5 cf hlt; replace HC2 := Aside0.mk (Kd.C_below HC2.out hb2); replace HCl := Aside0.mk (Kd.C_below HCl.out hb2); replace HB := Aside0.mk (HB.out.trans (hb2.mono HB.out.size)); replace HI := Aside0.mk (ev_below HI.out hb2); clear hb2; obtain ⟨c0, c1', c2', c3, c4, c5, cf⟩ := ev_cells HI.out; have hlt := blk_lt HI.out; (try dsimp only at c0 c1' c2' c3 c4 c5)))
  go_ret2
  first | exact ⟨rfl, HB.out⟩ | exact ⟨rfl, below_alloc HB.out _⟩

set_option maxHeartbeats 8000000 in
set_option maxRecDepth 100000 in
theorem rev_nd (k jb tm nd lm : Int) (l : List Int) (A : Option Addr) (c : Nat) (w : World) (ko jo uo no mo : Int) (lo : List Int) (ws : List ByteArray) (t : List UInt8) (hE : Env w) (hO : ∀ W, Env W → Kd.C (Kd.int .i64) W A l.length l → Calls Tryd.prog 19 #[.agg #[.int .i64 k, .int .i64 jb, .int .i64 tm, .int .i64 nd, .int .i64 lm, .slice A l.length c]] W (fun x w' => ∃ A1 c1 A2 c2, x = .returned (.tuple #[.agg #[.int .i64 ko, .int .i64 jo, .int .i64 uo, .int .i64 no, .int .i64 mo, .slice A1 lo.length c1], .slice A2 ws.length c2]) ∧ ws.length ≤ c2 ∧ lo.length ≤ c1 ∧ Kd.C (Kd.int .i64) w' A1 lo.length lo ∧ Kd.C Kd.string w' A2 ws.length ws ∧ Below W.heap.size W w')) (hC : Kd.C (Kd.int .i64) w A l.length l)
    (hS : ∀ W A1 c1, Kd.C (Kd.int .i64) W A1 lo.length lo → lo.length ≤ c1 → Kd.C (Kd.int .i64) W A l.length l → Calls Tryd.prog 20 #[.agg #[.int .i64 ko, .int .i64 jo, .int .i64 uo, .int .i64 no, .int .i64 mo, .slice A1 lo.length c1], .agg #[.int .i64 k, .int .i64 jb, .int .i64 tm, .int .i64 nd, .int .i64 lm, .slice A l.length c]] W fun e w' => e = .returned (.bool true) ∧ Below W.heap.size W w')
    (f0 : ((ws.length : Int) == 0) = false) (f2 : decide (jb < 0) = false) (f3 : decide (tm < 0) = false) (f4 : decide (nd < 0) = true) :
    Calls Tryd.prog 8 #[.agg #[.int .i64 k, .int .i64 jb, .int .i64 tm, .int .i64 nd, .int .i64 lm, .slice A l.length c]] w fun x w' => x = .returned (.tuple #[.string ⟨#[]⟩, .int .i64 90]) ∧ Below w.heap.size w w' := by
  have HO := Lib.hid hO
  have HS := Lib.hid hS
  have HC := Aside0.mk hC
  have hB0 := (Below.refl w.heap.size w).alloc (Nat.le_refl _) (.cells (evCells ⟨k, jb, tm, nd, lm, l⟩ A c) 24)
  have HC0 := Aside0.mk (Kd.C_below hC hB0)
  have HE0 := Aside0.mk (hE.step hB0)
  have HB0 := Aside0.mk hB0
  have HI0 := Aside0.mk (alloc_ev (w := w) rfl ⟨k, jb, tm, nd, lm, l⟩ A c)
  clear hO hS hC hE hB0
  go_enter Tryd.func8, Tryd.ntmps8
  go_wp2_with (first
    | (go_at_call 19; refine Calls.mono (HO.out _ HE0.out HC0.out) ?_; rintro x w1 ⟨A1, c1, A2, c2, rfl, hc2, hc1, hC1, hC2, hb1⟩; have HC1 := Aside0.mk hC1; have Hc1 := Aside0.mk hc1; have HC2 := Aside0.mk hC2; have Hc2 := Aside0.mk hc2; have HCl := Aside0.mk (Kd.C_below HC0.out hb1); have HB := Aside0.mk (HB0.out.trans (hb1.mono HB0.out.size)); have HI := Aside0.mk (ev_below HI0.out hb1); clear hc2 hc1 hC1 hC2 hb1; obtain ⟨c0, c1', c2', c3, c4, c5, cf⟩ := ev_cells HI.out; have hlt := blk_lt HI.out; (try dsimp only at c0 c1' c2' c3 c4 c5))
    | (go_at_call 20; refine Calls.mono (HS.out _ A1 c1 (Kd.C_alloc HC1.out _) Hc1.out (Kd.C_alloc HCl.out _)) ?_; rintro x w2 ⟨rfl, hb2'⟩; have hb2 := (below_alloc (Below.refl _ w1) (.cells #[.int .i64 ko, .int .i64 jo, .int .i64 uo, .int .i64 no, .int .i64 mo, .slice A1 lo.length c1] 24)).trans (hb2'.mono (Nat.le_of_lt (by simp))); clear hb2'; clear c0 c1' c2' c3 c4 c5 cf hlt; replace HC2 := Aside0.mk (Kd.C_below HC2.out hb2); replace HCl := Aside0.mk (Kd.C_below HCl.out hb2); replace HB := Aside0.mk (HB.out.trans (hb2.mono HB.out.size)); replace HI := Aside0.mk (ev_below HI.out hb2); clear hb2; obtain ⟨c0, c1', c2', c3, c4, c5, cf⟩ := ev_cells HI.out; have hlt := blk_lt HI.out; (try dsimp only at c0 c1' c2' c3 c4 c5)))
  go_ret2
  first | exact ⟨rfl, HB.out⟩ | exact ⟨rfl, below_alloc HB.out _⟩

set_option maxHeartbeats 8000000 in
set_option maxRecDepth 100000 in
theorem rev_lm (k jb tm nd lm : Int) (l : List Int) (A : Option Addr) (c : Nat) (w : World) (ko jo uo no mo : Int) (lo : List Int) (ws : List ByteArray) (t : List UInt8) (hE : Env w) (hO : ∀ W, Env W → Kd.C (Kd.int .i64) W A l.length l → Calls Tryd.prog 19 #[.agg #[.int .i64 k, .int .i64 jb, .int .i64 tm, .int .i64 nd, .int .i64 lm, .slice A l.length c]] W (fun x w' => ∃ A1 c1 A2 c2, x = .returned (.tuple #[.agg #[.int .i64 ko, .int .i64 jo, .int .i64 uo, .int .i64 no, .int .i64 mo, .slice A1 lo.length c1], .slice A2 ws.length c2]) ∧ ws.length ≤ c2 ∧ lo.length ≤ c1 ∧ Kd.C (Kd.int .i64) w' A1 lo.length lo ∧ Kd.C Kd.string w' A2 ws.length ws ∧ Below W.heap.size W w')) (hC : Kd.C (Kd.int .i64) w A l.length l)
    (hS : ∀ W A1 c1, Kd.C (Kd.int .i64) W A1 lo.length lo → lo.length ≤ c1 → Kd.C (Kd.int .i64) W A l.length l → Calls Tryd.prog 20 #[.agg #[.int .i64 ko, .int .i64 jo, .int .i64 uo, .int .i64 no, .int .i64 mo, .slice A1 lo.length c1], .agg #[.int .i64 k, .int .i64 jb, .int .i64 tm, .int .i64 nd, .int .i64 lm, .slice A l.length c]] W fun e w' => e = .returned (.bool true) ∧ Below W.heap.size W w')
    (f0 : ((ws.length : Int) == 0) = false) (f2 : decide (jb < 0) = false) (f3 : decide (tm < 0) = false) (f4 : decide (nd < 0) = false) (f5 : decide (lm < 0) = true) :
    Calls Tryd.prog 8 #[.agg #[.int .i64 k, .int .i64 jb, .int .i64 tm, .int .i64 nd, .int .i64 lm, .slice A l.length c]] w fun x w' => x = .returned (.tuple #[.string ⟨#[]⟩, .int .i64 90]) ∧ Below w.heap.size w w' := by
  have HO := Lib.hid hO
  have HS := Lib.hid hS
  have HC := Aside0.mk hC
  have hB0 := (Below.refl w.heap.size w).alloc (Nat.le_refl _) (.cells (evCells ⟨k, jb, tm, nd, lm, l⟩ A c) 24)
  have HC0 := Aside0.mk (Kd.C_below hC hB0)
  have HE0 := Aside0.mk (hE.step hB0)
  have HB0 := Aside0.mk hB0
  have HI0 := Aside0.mk (alloc_ev (w := w) rfl ⟨k, jb, tm, nd, lm, l⟩ A c)
  clear hO hS hC hE hB0
  go_enter Tryd.func8, Tryd.ntmps8
  go_wp2_with (first
    | (go_at_call 19; refine Calls.mono (HO.out _ HE0.out HC0.out) ?_; rintro x w1 ⟨A1, c1, A2, c2, rfl, hc2, hc1, hC1, hC2, hb1⟩; have HC1 := Aside0.mk hC1; have Hc1 := Aside0.mk hc1; have HC2 := Aside0.mk hC2; have Hc2 := Aside0.mk hc2; have HCl := Aside0.mk (Kd.C_below HC0.out hb1); have HB := Aside0.mk (HB0.out.trans (hb1.mono HB0.out.size)); have HI := Aside0.mk (ev_below HI0.out hb1); clear hc2 hc1 hC1 hC2 hb1; obtain ⟨c0, c1', c2', c3, c4, c5, cf⟩ := ev_cells HI.out; have hlt := blk_lt HI.out; (try dsimp only at c0 c1' c2' c3 c4 c5))
    | (go_at_call 20; refine Calls.mono (HS.out _ A1 c1 (Kd.C_alloc HC1.out _) Hc1.out (Kd.C_alloc HCl.out _)) ?_; rintro x w2 ⟨rfl, hb2'⟩; have hb2 := (below_alloc (Below.refl _ w1) (.cells #[.int .i64 ko, .int .i64 jo, .int .i64 uo, .int .i64 no, .int .i64 mo, .slice A1 lo.length c1] 24)).trans (hb2'.mono (Nat.le_of_lt (by simp))); clear hb2'; clear c0 c1' c2' c3 c4 c5 cf hlt; replace HC2 := Aside0.mk (Kd.C_below HC2.out hb2); replace HCl := Aside0.mk (Kd.C_below HCl.out hb2); replace HB := Aside0.mk (HB.out.trans (hb2.mono HB.out.size)); replace HI := Aside0.mk (ev_below HI.out hb2); clear hb2; obtain ⟨c0, c1', c2', c3, c4, c5, cf⟩ := ev_cells HI.out; have hlt := blk_lt HI.out; (try dsimp only at c0 c1' c2' c3 c4 c5)))
  go_ret2
  first | exact ⟨rfl, HB.out⟩ | exact ⟨rfl, below_alloc HB.out _⟩

set_option maxHeartbeats 8000000 in
set_option maxRecDepth 100000 in
theorem rev_bf (k jb tm nd lm : Int) (l : List Int) (A : Option Addr) (c : Nat) (w : World) (ko jo uo no mo : Int) (lo : List Int) (ws : List ByteArray) (t : List UInt8) (hE : Env w) (hO : ∀ W, Env W → Kd.C (Kd.int .i64) W A l.length l → Calls Tryd.prog 19 #[.agg #[.int .i64 k, .int .i64 jb, .int .i64 tm, .int .i64 nd, .int .i64 lm, .slice A l.length c]] W (fun x w' => ∃ A1 c1 A2 c2, x = .returned (.tuple #[.agg #[.int .i64 ko, .int .i64 jo, .int .i64 uo, .int .i64 no, .int .i64 mo, .slice A1 lo.length c1], .slice A2 ws.length c2]) ∧ ws.length ≤ c2 ∧ lo.length ≤ c1 ∧ Kd.C (Kd.int .i64) w' A1 lo.length lo ∧ Kd.C Kd.string w' A2 ws.length ws ∧ Below W.heap.size W w')) (hC : Kd.C (Kd.int .i64) w A l.length l)
    (hS : ∀ W A1 c1, Kd.C (Kd.int .i64) W A1 lo.length lo → lo.length ≤ c1 → Kd.C (Kd.int .i64) W A l.length l → Calls Tryd.prog 20 #[.agg #[.int .i64 ko, .int .i64 jo, .int .i64 uo, .int .i64 no, .int .i64 mo, .slice A1 lo.length c1], .agg #[.int .i64 k, .int .i64 jb, .int .i64 tm, .int .i64 nd, .int .i64 lm, .slice A l.length c]] W fun e w' => e = .returned (.bool true) ∧ Below W.heap.size W w')
    (hF : ∀ W, Kd.C (Kd.int .i64) W A l.length l → Calls Tryd.prog 21 #[.slice A l.length c] W fun e w' => e = .returned (.bool false) ∧ Drawn0 W w')
    (f0 : ((ws.length : Int) == 0) = false) (f2 : decide (jb < 0) = false) (f3 : decide (tm < 0) = false) (f4 : decide (nd < 0) = false) (f5 : decide (lm < 0) = false) :
    Calls Tryd.prog 8 #[.agg #[.int .i64 k, .int .i64 jb, .int .i64 tm, .int .i64 nd, .int .i64 lm, .slice A l.length c]] w fun x w' => x = .returned (.tuple #[.string ⟨#[]⟩, .int .i64 90]) ∧ Below w.heap.size w w' := by
  have HO := Lib.hid hO
  have HS := Lib.hid hS
  have HF := Lib.hid hF
  have HC := Aside0.mk hC
  have hB0 := (Below.refl w.heap.size w).alloc (Nat.le_refl _) (.cells (evCells ⟨k, jb, tm, nd, lm, l⟩ A c) 24)
  have HC0 := Aside0.mk (Kd.C_below hC hB0)
  have HE0 := Aside0.mk (hE.step hB0)
  have HB0 := Aside0.mk hB0
  have HI0 := Aside0.mk (alloc_ev (w := w) rfl ⟨k, jb, tm, nd, lm, l⟩ A c)
  clear hO hS hF hC hE hB0
  go_enter Tryd.func8, Tryd.ntmps8
  go_wp2_with (first
    | (go_at_call 19; refine Calls.mono (HO.out _ HE0.out HC0.out) ?_; rintro x w1 ⟨A1, c1, A2, c2, rfl, hc2, hc1, hC1, hC2, hb1⟩; have HC1 := Aside0.mk hC1; have Hc1 := Aside0.mk hc1; have HC2 := Aside0.mk hC2; have Hc2 := Aside0.mk hc2; have HCl := Aside0.mk (Kd.C_below HC0.out hb1); have HB := Aside0.mk (HB0.out.trans (hb1.mono HB0.out.size)); have HI := Aside0.mk (ev_below HI0.out hb1); clear hc2 hc1 hC1 hC2 hb1; obtain ⟨c0, c1', c2', c3, c4, c5, cf⟩ := ev_cells HI.out; have hlt := blk_lt HI.out; (try dsimp only at c0 c1' c2' c3 c4 c5))
    | (go_at_call 20; refine Calls.mono (HS.out _ A1 c1 (Kd.C_alloc HC1.out _) Hc1.out (Kd.C_alloc HCl.out _)) ?_; rintro x w2 ⟨rfl, hb2'⟩; have hb2 := (below_alloc (Below.refl _ w1) (.cells #[.int .i64 ko, .int .i64 jo, .int .i64 uo, .int .i64 no, .int .i64 mo, .slice A1 lo.length c1] 24)).trans (hb2'.mono (Nat.le_of_lt (by simp))); clear hb2'; clear c0 c1' c2' c3 c4 c5 cf hlt; replace HC2 := Aside0.mk (Kd.C_below HC2.out hb2); replace HCl := Aside0.mk (Kd.C_below HCl.out hb2); replace HB := Aside0.mk (HB.out.trans (hb2.mono HB.out.size)); replace HI := Aside0.mk (ev_below HI.out hb2); clear hb2; obtain ⟨c0, c1', c2', c3, c4, c5, cf⟩ := ev_cells HI.out; have hlt := blk_lt HI.out; (try dsimp only at c0 c1' c2' c3 c4 c5))
    | (go_at_call 21; refine Calls.mono (HF.out _ HCl.out) ?_; rintro x w2 ⟨rfl, hd2⟩; clear c0 c1' c2' c3 c4 c5 cf hlt; have hb2 := rdrawn_below hd2; replace HC2 := Aside0.mk (Kd.C_below HC2.out hb2); replace HCl := Aside0.mk (Kd.C_below HCl.out hb2); replace HB := Aside0.mk (HB.out.trans (hb2.mono HB.out.size)); replace HI := Aside0.mk (ev_below HI.out hb2); clear hb2 hd2; obtain ⟨c0, c1', c2', c3, c4, c5, cf⟩ := ev_cells HI.out; have hlt := blk_lt HI.out; (try dsimp only at c0 c1' c2' c3 c4 c5)))
  go_ret2
  first | exact ⟨rfl, HB.out⟩ | exact ⟨rfl, below_alloc HB.out _⟩

set_option maxHeartbeats 8000000 in
set_option maxRecDepth 100000 in
theorem rev_x3lo (jb tm nd lm : Int) (l : List Int) (A : Option Addr) (c : Nat) (w : World) (ko jo uo no mo : Int) (lo : List Int) (ws : List ByteArray) (t : List UInt8) (hE : Env w) (hO : ∀ W, Env W → Kd.C (Kd.int .i64) W A l.length l → Calls Tryd.prog 19 #[.agg #[.int .i64 3, .int .i64 jb, .int .i64 tm, .int .i64 nd, .int .i64 lm, .slice A l.length c]] W (fun x w' => ∃ A1 c1 A2 c2, x = .returned (.tuple #[.agg #[.int .i64 ko, .int .i64 jo, .int .i64 uo, .int .i64 no, .int .i64 mo, .slice A1 lo.length c1], .slice A2 ws.length c2]) ∧ ws.length ≤ c2 ∧ lo.length ≤ c1 ∧ Kd.C (Kd.int .i64) w' A1 lo.length lo ∧ Kd.C Kd.string w' A2 ws.length ws ∧ Below W.heap.size W w')) (hC : Kd.C (Kd.int .i64) w A l.length l)
    (hS : ∀ W A1 c1, Kd.C (Kd.int .i64) W A1 lo.length lo → lo.length ≤ c1 → Kd.C (Kd.int .i64) W A l.length l → Calls Tryd.prog 20 #[.agg #[.int .i64 ko, .int .i64 jo, .int .i64 uo, .int .i64 no, .int .i64 mo, .slice A1 lo.length c1], .agg #[.int .i64 3, .int .i64 jb, .int .i64 tm, .int .i64 nd, .int .i64 lm, .slice A l.length c]] W fun e w' => e = .returned (.bool true) ∧ Below W.heap.size W w')
    (hF : ∀ W, Kd.C (Kd.int .i64) W A l.length l → Calls Tryd.prog 21 #[.slice A l.length c] W fun e w' => e = .returned (.bool true) ∧ Drawn0 W w')
    (f0 : ((ws.length : Int) == 0) = false) (f2 : decide (jb < 0) = false) (f3 : decide (tm < 0) = false) (f4 : decide (nd < 0) = false) (f5 : decide (lm < 0) = false) (f7 : decide (nd < 3) = true) :
    Calls Tryd.prog 8 #[.agg #[.int .i64 3, .int .i64 jb, .int .i64 tm, .int .i64 nd, .int .i64 lm, .slice A l.length c]] w fun x w' => x = .returned (.tuple #[.string ⟨#[]⟩, .int .i64 90]) ∧ Below w.heap.size w w' := by
  have HO := Lib.hid hO
  have HS := Lib.hid hS
  have HF := Lib.hid hF
  have HC := Aside0.mk hC
  have hB0 := (Below.refl w.heap.size w).alloc (Nat.le_refl _) (.cells (evCells ⟨3, jb, tm, nd, lm, l⟩ A c) 24)
  have HC0 := Aside0.mk (Kd.C_below hC hB0)
  have HE0 := Aside0.mk (hE.step hB0)
  have HB0 := Aside0.mk hB0
  have HI0 := Aside0.mk (alloc_ev (w := w) rfl ⟨3, jb, tm, nd, lm, l⟩ A c)
  clear hO hS hF hC hE hB0
  go_enter Tryd.func8, Tryd.ntmps8
  go_wp2_with (first
    | (go_at_call 19; refine Calls.mono (HO.out _ HE0.out HC0.out) ?_; rintro x w1 ⟨A1, c1, A2, c2, rfl, hc2, hc1, hC1, hC2, hb1⟩; have HC1 := Aside0.mk hC1; have Hc1 := Aside0.mk hc1; have HC2 := Aside0.mk hC2; have Hc2 := Aside0.mk hc2; have HCl := Aside0.mk (Kd.C_below HC0.out hb1); have HB := Aside0.mk (HB0.out.trans (hb1.mono HB0.out.size)); have HI := Aside0.mk (ev_below HI0.out hb1); clear hc2 hc1 hC1 hC2 hb1; obtain ⟨c0, c1', c2', c3, c4, c5, cf⟩ := ev_cells HI.out; have hlt := blk_lt HI.out; (try dsimp only at c0 c1' c2' c3 c4 c5))
    | (go_at_call 20; refine Calls.mono (HS.out _ A1 c1 (Kd.C_alloc HC1.out _) Hc1.out (Kd.C_alloc HCl.out _)) ?_; rintro x w2 ⟨rfl, hb2'⟩; have hb2 := (below_alloc (Below.refl _ w1) (.cells #[.int .i64 ko, .int .i64 jo, .int .i64 uo, .int .i64 no, .int .i64 mo, .slice A1 lo.length c1] 24)).trans (hb2'.mono (Nat.le_of_lt (by simp))); clear hb2'; clear c0 c1' c2' c3 c4 c5 cf hlt; replace HC2 := Aside0.mk (Kd.C_below HC2.out hb2); replace HCl := Aside0.mk (Kd.C_below HCl.out hb2); replace HB := Aside0.mk (HB.out.trans (hb2.mono HB.out.size)); replace HI := Aside0.mk (ev_below HI.out hb2); clear hb2; obtain ⟨c0, c1', c2', c3, c4, c5, cf⟩ := ev_cells HI.out; have hlt := blk_lt HI.out; (try dsimp only at c0 c1' c2' c3 c4 c5))
    | (go_at_call 21; refine Calls.mono (HF.out _ HCl.out) ?_; rintro x w2 ⟨rfl, hd2⟩; clear c0 c1' c2' c3 c4 c5 cf hlt; have hb2 := rdrawn_below hd2; replace HC2 := Aside0.mk (Kd.C_below HC2.out hb2); replace HCl := Aside0.mk (Kd.C_below HCl.out hb2); replace HB := Aside0.mk (HB.out.trans (hb2.mono HB.out.size)); replace HI := Aside0.mk (ev_below HI.out hb2); clear hb2 hd2; obtain ⟨c0, c1', c2', c3, c4, c5, cf⟩ := ev_cells HI.out; have hlt := blk_lt HI.out; (try dsimp only at c0 c1' c2' c3 c4 c5)))
  go_ret2
  first | exact ⟨rfl, HB.out⟩ | exact ⟨rfl, below_alloc HB.out _⟩

set_option maxHeartbeats 8000000 in
set_option maxRecDepth 100000 in
theorem rev_x3hi (jb tm nd lm : Int) (l : List Int) (A : Option Addr) (c : Nat) (w : World) (ko jo uo no mo : Int) (lo : List Int) (ws : List ByteArray) (t : List UInt8) (hE : Env w) (hO : ∀ W, Env W → Kd.C (Kd.int .i64) W A l.length l → Calls Tryd.prog 19 #[.agg #[.int .i64 3, .int .i64 jb, .int .i64 tm, .int .i64 nd, .int .i64 lm, .slice A l.length c]] W (fun x w' => ∃ A1 c1 A2 c2, x = .returned (.tuple #[.agg #[.int .i64 ko, .int .i64 jo, .int .i64 uo, .int .i64 no, .int .i64 mo, .slice A1 lo.length c1], .slice A2 ws.length c2]) ∧ ws.length ≤ c2 ∧ lo.length ≤ c1 ∧ Kd.C (Kd.int .i64) w' A1 lo.length lo ∧ Kd.C Kd.string w' A2 ws.length ws ∧ Below W.heap.size W w')) (hC : Kd.C (Kd.int .i64) w A l.length l)
    (hS : ∀ W A1 c1, Kd.C (Kd.int .i64) W A1 lo.length lo → lo.length ≤ c1 → Kd.C (Kd.int .i64) W A l.length l → Calls Tryd.prog 20 #[.agg #[.int .i64 ko, .int .i64 jo, .int .i64 uo, .int .i64 no, .int .i64 mo, .slice A1 lo.length c1], .agg #[.int .i64 3, .int .i64 jb, .int .i64 tm, .int .i64 nd, .int .i64 lm, .slice A l.length c]] W fun e w' => e = .returned (.bool true) ∧ Below W.heap.size W w')
    (hF : ∀ W, Kd.C (Kd.int .i64) W A l.length l → Calls Tryd.prog 21 #[.slice A l.length c] W fun e w' => e = .returned (.bool true) ∧ Drawn0 W w')
    (f0 : ((ws.length : Int) == 0) = false) (f2 : decide (jb < 0) = false) (f3 : decide (tm < 0) = false) (f4 : decide (nd < 0) = false) (f5 : decide (lm < 0) = false) (f7 : decide (nd < 3) = false) (f8 : decide (6 < nd) = true) :
    Calls Tryd.prog 8 #[.agg #[.int .i64 3, .int .i64 jb, .int .i64 tm, .int .i64 nd, .int .i64 lm, .slice A l.length c]] w fun x w' => x = .returned (.tuple #[.string ⟨#[]⟩, .int .i64 90]) ∧ Below w.heap.size w w' := by
  have HO := Lib.hid hO
  have HS := Lib.hid hS
  have HF := Lib.hid hF
  have HC := Aside0.mk hC
  have hB0 := (Below.refl w.heap.size w).alloc (Nat.le_refl _) (.cells (evCells ⟨3, jb, tm, nd, lm, l⟩ A c) 24)
  have HC0 := Aside0.mk (Kd.C_below hC hB0)
  have HE0 := Aside0.mk (hE.step hB0)
  have HB0 := Aside0.mk hB0
  have HI0 := Aside0.mk (alloc_ev (w := w) rfl ⟨3, jb, tm, nd, lm, l⟩ A c)
  clear hO hS hF hC hE hB0
  go_enter Tryd.func8, Tryd.ntmps8
  go_wp2_with (first
    | (go_at_call 19; refine Calls.mono (HO.out _ HE0.out HC0.out) ?_; rintro x w1 ⟨A1, c1, A2, c2, rfl, hc2, hc1, hC1, hC2, hb1⟩; have HC1 := Aside0.mk hC1; have Hc1 := Aside0.mk hc1; have HC2 := Aside0.mk hC2; have Hc2 := Aside0.mk hc2; have HCl := Aside0.mk (Kd.C_below HC0.out hb1); have HB := Aside0.mk (HB0.out.trans (hb1.mono HB0.out.size)); have HI := Aside0.mk (ev_below HI0.out hb1); clear hc2 hc1 hC1 hC2 hb1; obtain ⟨c0, c1', c2', c3, c4, c5, cf⟩ := ev_cells HI.out; have hlt := blk_lt HI.out; (try dsimp only at c0 c1' c2' c3 c4 c5))
    | (go_at_call 20; refine Calls.mono (HS.out _ A1 c1 (Kd.C_alloc HC1.out _) Hc1.out (Kd.C_alloc HCl.out _)) ?_; rintro x w2 ⟨rfl, hb2'⟩; have hb2 := (below_alloc (Below.refl _ w1) (.cells #[.int .i64 ko, .int .i64 jo, .int .i64 uo, .int .i64 no, .int .i64 mo, .slice A1 lo.length c1] 24)).trans (hb2'.mono (Nat.le_of_lt (by simp))); clear hb2'; clear c0 c1' c2' c3 c4 c5 cf hlt; replace HC2 := Aside0.mk (Kd.C_below HC2.out hb2); replace HCl := Aside0.mk (Kd.C_below HCl.out hb2); replace HB := Aside0.mk (HB.out.trans (hb2.mono HB.out.size)); replace HI := Aside0.mk (ev_below HI.out hb2); clear hb2; obtain ⟨c0, c1', c2', c3, c4, c5, cf⟩ := ev_cells HI.out; have hlt := blk_lt HI.out; (try dsimp only at c0 c1' c2' c3 c4 c5))
    | (go_at_call 21; refine Calls.mono (HF.out _ HCl.out) ?_; rintro x w2 ⟨rfl, hd2⟩; clear c0 c1' c2' c3 c4 c5 cf hlt; have hb2 := rdrawn_below hd2; replace HC2 := Aside0.mk (Kd.C_below HC2.out hb2); replace HCl := Aside0.mk (Kd.C_below HCl.out hb2); replace HB := Aside0.mk (HB.out.trans (hb2.mono HB.out.size)); replace HI := Aside0.mk (ev_below HI.out hb2); clear hb2 hd2; obtain ⟨c0, c1', c2', c3, c4, c5, cf⟩ := ev_cells HI.out; have hlt := blk_lt HI.out; (try dsimp only at c0 c1' c2' c3 c4 c5)))
  go_ret2
  first | exact ⟨rfl, HB.out⟩ | exact ⟨rfl, below_alloc HB.out _⟩

set_option maxHeartbeats 8000000 in
set_option maxRecDepth 100000 in
theorem rev_x3ok (jb tm nd lm : Int) (l : List Int) (A : Option Addr) (c : Nat) (w : World) (ko jo uo no mo : Int) (lo : List Int) (ws : List ByteArray) (t : ByteArray) (hE : Env w) (hO : ∀ W, Env W → Kd.C (Kd.int .i64) W A l.length l → Calls Tryd.prog 19 #[.agg #[.int .i64 3, .int .i64 jb, .int .i64 tm, .int .i64 nd, .int .i64 lm, .slice A l.length c]] W (fun x w' => ∃ A1 c1 A2 c2, x = .returned (.tuple #[.agg #[.int .i64 ko, .int .i64 jo, .int .i64 uo, .int .i64 no, .int .i64 mo, .slice A1 lo.length c1], .slice A2 ws.length c2]) ∧ ws.length ≤ c2 ∧ lo.length ≤ c1 ∧ Kd.C (Kd.int .i64) w' A1 lo.length lo ∧ Kd.C Kd.string w' A2 ws.length ws ∧ Below W.heap.size W w')) (hC : Kd.C (Kd.int .i64) w A l.length l)
    (hS : ∀ W A1 c1, Kd.C (Kd.int .i64) W A1 lo.length lo → lo.length ≤ c1 → Kd.C (Kd.int .i64) W A l.length l → Calls Tryd.prog 20 #[.agg #[.int .i64 ko, .int .i64 jo, .int .i64 uo, .int .i64 no, .int .i64 mo, .slice A1 lo.length c1], .agg #[.int .i64 3, .int .i64 jb, .int .i64 tm, .int .i64 nd, .int .i64 lm, .slice A l.length c]] W fun e w' => e = .returned (.bool true) ∧ Below W.heap.size W w')
    (hF : ∀ W, Kd.C (Kd.int .i64) W A l.length l → Calls Tryd.prog 21 #[.slice A l.length c] W fun e w' => e = .returned (.bool true) ∧ Drawn0 W w')
    (hW : ∀ W A2 c2, Kd.C Kd.string W A2 ws.length ws → ws.length ≤ c2 → Calls Tryd.prog 23 #[.slice A2 ws.length c2] W fun e w' => e = .returned (.string t) ∧ Drawn0 W w')
    (f0 : ((ws.length : Int) == 0) = false) (f2 : decide (jb < 0) = false) (f3 : decide (tm < 0) = false) (f4 : decide (nd < 0) = false) (f5 : decide (lm < 0) = false) (f7 : decide (nd < 3) = false) (f8 : decide (6 < nd) = false) :
    Calls Tryd.prog 8 #[.agg #[.int .i64 3, .int .i64 jb, .int .i64 tm, .int .i64 nd, .int .i64 lm, .slice A l.length c]] w fun x w' => x = .returned (.tuple #[.string t, .int .i64 0]) ∧ Below w.heap.size w w' := by
  have HO := Lib.hid hO
  have HS := Lib.hid hS
  have HF := Lib.hid hF
  have HW := Lib.hid hW
  have HC := Aside0.mk hC
  have hB0 := (Below.refl w.heap.size w).alloc (Nat.le_refl _) (.cells (evCells ⟨3, jb, tm, nd, lm, l⟩ A c) 24)
  have HC0 := Aside0.mk (Kd.C_below hC hB0)
  have HE0 := Aside0.mk (hE.step hB0)
  have HB0 := Aside0.mk hB0
  have HI0 := Aside0.mk (alloc_ev (w := w) rfl ⟨3, jb, tm, nd, lm, l⟩ A c)
  clear hO hS hF hW hC hE hB0
  go_enter Tryd.func8, Tryd.ntmps8
  go_wp2_with (first
    | (go_at_call 19; refine Calls.mono (HO.out _ HE0.out HC0.out) ?_; rintro x w1 ⟨A1, c1, A2, c2, rfl, hc2, hc1, hC1, hC2, hb1⟩; have HC1 := Aside0.mk hC1; have Hc1 := Aside0.mk hc1; have HC2 := Aside0.mk hC2; have Hc2 := Aside0.mk hc2; have HCl := Aside0.mk (Kd.C_below HC0.out hb1); have HB := Aside0.mk (HB0.out.trans (hb1.mono HB0.out.size)); have HI := Aside0.mk (ev_below HI0.out hb1); clear hc2 hc1 hC1 hC2 hb1; obtain ⟨c0, c1', c2', c3, c4, c5, cf⟩ := ev_cells HI.out; have hlt := blk_lt HI.out; (try dsimp only at c0 c1' c2' c3 c4 c5))
    | (go_at_call 20; refine Calls.mono (HS.out _ A1 c1 (Kd.C_alloc HC1.out _) Hc1.out (Kd.C_alloc HCl.out _)) ?_; rintro x w2 ⟨rfl, hb2'⟩; have hb2 := (below_alloc (Below.refl _ w1) (.cells #[.int .i64 ko, .int .i64 jo, .int .i64 uo, .int .i64 no, .int .i64 mo, .slice A1 lo.length c1] 24)).trans (hb2'.mono (Nat.le_of_lt (by simp))); clear hb2'; clear c0 c1' c2' c3 c4 c5 cf hlt; replace HC2 := Aside0.mk (Kd.C_below HC2.out hb2); replace HCl := Aside0.mk (Kd.C_below HCl.out hb2); replace HB := Aside0.mk (HB.out.trans (hb2.mono HB.out.size)); replace HI := Aside0.mk (ev_below HI.out hb2); clear hb2; obtain ⟨c0, c1', c2', c3, c4, c5, cf⟩ := ev_cells HI.out; have hlt := blk_lt HI.out; (try dsimp only at c0 c1' c2' c3 c4 c5))
    | (go_at_call 21; refine Calls.mono (HF.out _ HCl.out) ?_; rintro x w2 ⟨rfl, hd2⟩; clear c0 c1' c2' c3 c4 c5 cf hlt; have hb2 := rdrawn_below hd2; replace HC2 := Aside0.mk (Kd.C_below HC2.out hb2); replace HCl := Aside0.mk (Kd.C_below HCl.out hb2); replace HB := Aside0.mk (HB.out.trans (hb2.mono HB.out.size)); replace HI := Aside0.mk (ev_below HI.out hb2); clear hb2 hd2; obtain ⟨c0, c1', c2', c3, c4, c5, cf⟩ := ev_cells HI.out; have hlt := blk_lt HI.out; (try dsimp only at c0 c1' c2' c3 c4 c5))
    | (go_at_call 23; refine Calls.mono (HW.out _ A2 c2 HC2.out Hc2.out) ?_; rintro x w2 ⟨rfl, hd2⟩; have hb2 := rdrawn_below hd2; replace HB := Aside0.mk (HB.out.trans (hb2.mono HB.out.size)); clear hb2 hd2))
  go_ret2
  first | exact ⟨rfl, HB.out⟩ | exact ⟨rfl, below_alloc HB.out _⟩

set_option maxHeartbeats 8000000 in
set_option maxRecDepth 100000 in
theorem rev_x2no (jb tm nd lm : Int) (l : List Int) (A : Option Addr) (c : Nat) (w : World) (ko jo uo no mo : Int) (lo : List Int) (ws : List ByteArray) (t : List UInt8) (hE : Env w) (hO : ∀ W, Env W → Kd.C (Kd.int .i64) W A l.length l → Calls Tryd.prog 19 #[.agg #[.int .i64 2, .int .i64 jb, .int .i64 tm, .int .i64 nd, .int .i64 lm, .slice A l.length c]] W (fun x w' => ∃ A1 c1 A2 c2, x = .returned (.tuple #[.agg #[.int .i64 ko, .int .i64 jo, .int .i64 uo, .int .i64 no, .int .i64 mo, .slice A1 lo.length c1], .slice A2 ws.length c2]) ∧ ws.length ≤ c2 ∧ lo.length ≤ c1 ∧ Kd.C (Kd.int .i64) w' A1 lo.length lo ∧ Kd.C Kd.string w' A2 ws.length ws ∧ Below W.heap.size W w')) (hC : Kd.C (Kd.int .i64) w A l.length l)
    (hS : ∀ W A1 c1, Kd.C (Kd.int .i64) W A1 lo.length lo → lo.length ≤ c1 → Kd.C (Kd.int .i64) W A l.length l → Calls Tryd.prog 20 #[.agg #[.int .i64 ko, .int .i64 jo, .int .i64 uo, .int .i64 no, .int .i64 mo, .slice A1 lo.length c1], .agg #[.int .i64 2, .int .i64 jb, .int .i64 tm, .int .i64 nd, .int .i64 lm, .slice A l.length c]] W fun e w' => e = .returned (.bool true) ∧ Below W.heap.size W w')
    (hF : ∀ W, Kd.C (Kd.int .i64) W A l.length l → Calls Tryd.prog 21 #[.slice A l.length c] W fun e w' => e = .returned (.bool true) ∧ Drawn0 W w')
    (hM : ∀ W, Kd.C (Kd.int .i64) W A l.length l → Calls Tryd.prog 22 #[.slice A l.length c] W fun e w' => e = .returned (.bool false) ∧ Drawn0 W w')
    (f0 : ((ws.length : Int) == 0) = false) (f2 : decide (jb < 0) = false) (f3 : decide (tm < 0) = false) (f4 : decide (nd < 0) = false) (f5 : decide (lm < 0) = false) :
    Calls Tryd.prog 8 #[.agg #[.int .i64 2, .int .i64 jb, .int .i64 tm, .int .i64 nd, .int .i64 lm, .slice A l.length c]] w fun x w' => x = .returned (.tuple #[.string ⟨#[]⟩, .int .i64 90]) ∧ Below w.heap.size w w' := by
  have HO := Lib.hid hO
  have HS := Lib.hid hS
  have HF := Lib.hid hF
  have HM := Lib.hid hM
  have HC := Aside0.mk hC
  have hB0 := (Below.refl w.heap.size w).alloc (Nat.le_refl _) (.cells (evCells ⟨2, jb, tm, nd, lm, l⟩ A c) 24)
  have HC0 := Aside0.mk (Kd.C_below hC hB0)
  have HE0 := Aside0.mk (hE.step hB0)
  have HB0 := Aside0.mk hB0
  have HI0 := Aside0.mk (alloc_ev (w := w) rfl ⟨2, jb, tm, nd, lm, l⟩ A c)
  clear hO hS hF hM hC hE hB0
  go_enter Tryd.func8, Tryd.ntmps8
  go_wp2_with (first
    | (go_at_call 19; refine Calls.mono (HO.out _ HE0.out HC0.out) ?_; rintro x w1 ⟨A1, c1, A2, c2, rfl, hc2, hc1, hC1, hC2, hb1⟩; have HC1 := Aside0.mk hC1; have Hc1 := Aside0.mk hc1; have HC2 := Aside0.mk hC2; have Hc2 := Aside0.mk hc2; have HCl := Aside0.mk (Kd.C_below HC0.out hb1); have HB := Aside0.mk (HB0.out.trans (hb1.mono HB0.out.size)); have HI := Aside0.mk (ev_below HI0.out hb1); clear hc2 hc1 hC1 hC2 hb1; obtain ⟨c0, c1', c2', c3, c4, c5, cf⟩ := ev_cells HI.out; have hlt := blk_lt HI.out; (try dsimp only at c0 c1' c2' c3 c4 c5))
    | (go_at_call 20; refine Calls.mono (HS.out _ A1 c1 (Kd.C_alloc HC1.out _) Hc1.out (Kd.C_alloc HCl.out _)) ?_; rintro x w2 ⟨rfl, hb2'⟩; have hb2 := (below_alloc (Below.refl _ w1) (.cells #[.int .i64 ko, .int .i64 jo, .int .i64 uo, .int .i64 no, .int .i64 mo, .slice A1 lo.length c1] 24)).trans (hb2'.mono (Nat.le_of_lt (by simp))); clear hb2'; clear c0 c1' c2' c3 c4 c5 cf hlt; replace HC2 := Aside0.mk (Kd.C_below HC2.out hb2); replace HCl := Aside0.mk (Kd.C_below HCl.out hb2); replace HB := Aside0.mk (HB.out.trans (hb2.mono HB.out.size)); replace HI := Aside0.mk (ev_below HI.out hb2); clear hb2; obtain ⟨c0, c1', c2', c3, c4, c5, cf⟩ := ev_cells HI.out; have hlt := blk_lt HI.out; (try dsimp only at c0 c1' c2' c3 c4 c5))
    | (go_at_call 21; refine Calls.mono (HF.out _ HCl.out) ?_; rintro x w2 ⟨rfl, hd2⟩; clear c0 c1' c2' c3 c4 c5 cf hlt; have hb2 := rdrawn_below hd2; replace HC2 := Aside0.mk (Kd.C_below HC2.out hb2); replace HCl := Aside0.mk (Kd.C_below HCl.out hb2); replace HB := Aside0.mk (HB.out.trans (hb2.mono HB.out.size)); replace HI := Aside0.mk (ev_below HI.out hb2); clear hb2 hd2; obtain ⟨c0, c1', c2', c3, c4, c5, cf⟩ := ev_cells HI.out; have hlt := blk_lt HI.out; (try dsimp only at c0 c1' c2' c3 c4 c5))
    | (go_at_call 22; refine Calls.mono (HM.out _ HCl.out) ?_; rintro x w2 ⟨rfl, hd2⟩; clear c0 c1' c2' c3 c4 c5 cf hlt; have hb2 := rdrawn_below hd2; replace HC2 := Aside0.mk (Kd.C_below HC2.out hb2); replace HCl := Aside0.mk (Kd.C_below HCl.out hb2); replace HB := Aside0.mk (HB.out.trans (hb2.mono HB.out.size)); replace HI := Aside0.mk (ev_below HI.out hb2); clear hb2 hd2; obtain ⟨c0, c1', c2', c3, c4, c5, cf⟩ := ev_cells HI.out; have hlt := blk_lt HI.out; (try dsimp only at c0 c1' c2' c3 c4 c5)))
  go_ret2
  first | exact ⟨rfl, HB.out⟩ | exact ⟨rfl, below_alloc HB.out _⟩

set_option maxHeartbeats 8000000 in
set_option maxRecDepth 100000 in
theorem rev_x2ok (jb tm nd lm : Int) (l : List Int) (A : Option Addr) (c : Nat) (w : World) (ko jo uo no mo : Int) (lo : List Int) (ws : List ByteArray) (t : ByteArray) (hE : Env w) (hO : ∀ W, Env W → Kd.C (Kd.int .i64) W A l.length l → Calls Tryd.prog 19 #[.agg #[.int .i64 2, .int .i64 jb, .int .i64 tm, .int .i64 nd, .int .i64 lm, .slice A l.length c]] W (fun x w' => ∃ A1 c1 A2 c2, x = .returned (.tuple #[.agg #[.int .i64 ko, .int .i64 jo, .int .i64 uo, .int .i64 no, .int .i64 mo, .slice A1 lo.length c1], .slice A2 ws.length c2]) ∧ ws.length ≤ c2 ∧ lo.length ≤ c1 ∧ Kd.C (Kd.int .i64) w' A1 lo.length lo ∧ Kd.C Kd.string w' A2 ws.length ws ∧ Below W.heap.size W w')) (hC : Kd.C (Kd.int .i64) w A l.length l)
    (hS : ∀ W A1 c1, Kd.C (Kd.int .i64) W A1 lo.length lo → lo.length ≤ c1 → Kd.C (Kd.int .i64) W A l.length l → Calls Tryd.prog 20 #[.agg #[.int .i64 ko, .int .i64 jo, .int .i64 uo, .int .i64 no, .int .i64 mo, .slice A1 lo.length c1], .agg #[.int .i64 2, .int .i64 jb, .int .i64 tm, .int .i64 nd, .int .i64 lm, .slice A l.length c]] W fun e w' => e = .returned (.bool true) ∧ Below W.heap.size W w')
    (hF : ∀ W, Kd.C (Kd.int .i64) W A l.length l → Calls Tryd.prog 21 #[.slice A l.length c] W fun e w' => e = .returned (.bool true) ∧ Drawn0 W w')
    (hM : ∀ W, Kd.C (Kd.int .i64) W A l.length l → Calls Tryd.prog 22 #[.slice A l.length c] W fun e w' => e = .returned (.bool true) ∧ Drawn0 W w')
    (hW : ∀ W A2 c2, Kd.C Kd.string W A2 ws.length ws → ws.length ≤ c2 → Calls Tryd.prog 23 #[.slice A2 ws.length c2] W fun e w' => e = .returned (.string t) ∧ Drawn0 W w')
    (f0 : ((ws.length : Int) == 0) = false) (f2 : decide (jb < 0) = false) (f3 : decide (tm < 0) = false) (f4 : decide (nd < 0) = false) (f5 : decide (lm < 0) = false) :
    Calls Tryd.prog 8 #[.agg #[.int .i64 2, .int .i64 jb, .int .i64 tm, .int .i64 nd, .int .i64 lm, .slice A l.length c]] w fun x w' => x = .returned (.tuple #[.string t, .int .i64 0]) ∧ Below w.heap.size w w' := by
  have HO := Lib.hid hO
  have HS := Lib.hid hS
  have HF := Lib.hid hF
  have HM := Lib.hid hM
  have HW := Lib.hid hW
  have HC := Aside0.mk hC
  have hB0 := (Below.refl w.heap.size w).alloc (Nat.le_refl _) (.cells (evCells ⟨2, jb, tm, nd, lm, l⟩ A c) 24)
  have HC0 := Aside0.mk (Kd.C_below hC hB0)
  have HE0 := Aside0.mk (hE.step hB0)
  have HB0 := Aside0.mk hB0
  have HI0 := Aside0.mk (alloc_ev (w := w) rfl ⟨2, jb, tm, nd, lm, l⟩ A c)
  clear hO hS hF hM hW hC hE hB0
  go_enter Tryd.func8, Tryd.ntmps8
  go_wp2_with (first
    | (go_at_call 19; refine Calls.mono (HO.out _ HE0.out HC0.out) ?_; rintro x w1 ⟨A1, c1, A2, c2, rfl, hc2, hc1, hC1, hC2, hb1⟩; have HC1 := Aside0.mk hC1; have Hc1 := Aside0.mk hc1; have HC2 := Aside0.mk hC2; have Hc2 := Aside0.mk hc2; have HCl := Aside0.mk (Kd.C_below HC0.out hb1); have HB := Aside0.mk (HB0.out.trans (hb1.mono HB0.out.size)); have HI := Aside0.mk (ev_below HI0.out hb1); clear hc2 hc1 hC1 hC2 hb1; obtain ⟨c0, c1', c2', c3, c4, c5, cf⟩ := ev_cells HI.out; have hlt := blk_lt HI.out; (try dsimp only at c0 c1' c2' c3 c4 c5))
    | (go_at_call 20; refine Calls.mono (HS.out _ A1 c1 (Kd.C_alloc HC1.out _) Hc1.out (Kd.C_alloc HCl.out _)) ?_; rintro x w2 ⟨rfl, hb2'⟩; have hb2 := (below_alloc (Below.refl _ w1) (.cells #[.int .i64 ko, .int .i64 jo, .int .i64 uo, .int .i64 no, .int .i64 mo, .slice A1 lo.length c1] 24)).trans (hb2'.mono (Nat.le_of_lt (by simp))); clear hb2'; clear c0 c1' c2' c3 c4 c5 cf hlt; replace HC2 := Aside0.mk (Kd.C_below HC2.out hb2); replace HCl := Aside0.mk (Kd.C_below HCl.out hb2); replace HB := Aside0.mk (HB.out.trans (hb2.mono HB.out.size)); replace HI := Aside0.mk (ev_below HI.out hb2); clear hb2; obtain ⟨c0, c1', c2', c3, c4, c5, cf⟩ := ev_cells HI.out; have hlt := blk_lt HI.out; (try dsimp only at c0 c1' c2' c3 c4 c5))
    | (go_at_call 21; refine Calls.mono (HF.out _ HCl.out) ?_; rintro x w2 ⟨rfl, hd2⟩; clear c0 c1' c2' c3 c4 c5 cf hlt; have hb2 := rdrawn_below hd2; replace HC2 := Aside0.mk (Kd.C_below HC2.out hb2); replace HCl := Aside0.mk (Kd.C_below HCl.out hb2); replace HB := Aside0.mk (HB.out.trans (hb2.mono HB.out.size)); replace HI := Aside0.mk (ev_below HI.out hb2); clear hb2 hd2; obtain ⟨c0, c1', c2', c3, c4, c5, cf⟩ := ev_cells HI.out; have hlt := blk_lt HI.out; (try dsimp only at c0 c1' c2' c3 c4 c5))
    | (go_at_call 22; refine Calls.mono (HM.out _ HCl.out) ?_; rintro x w2 ⟨rfl, hd2⟩; clear c0 c1' c2' c3 c4 c5 cf hlt; have hb2 := rdrawn_below hd2; replace HC2 := Aside0.mk (Kd.C_below HC2.out hb2); replace HCl := Aside0.mk (Kd.C_below HCl.out hb2); replace HB := Aside0.mk (HB.out.trans (hb2.mono HB.out.size)); replace HI := Aside0.mk (ev_below HI.out hb2); clear hb2 hd2; obtain ⟨c0, c1', c2', c3, c4, c5, cf⟩ := ev_cells HI.out; have hlt := blk_lt HI.out; (try dsimp only at c0 c1' c2' c3 c4 c5))
    | (go_at_call 23; refine Calls.mono (HW.out _ A2 c2 HC2.out Hc2.out) ?_; rintro x w2 ⟨rfl, hd2⟩; have hb2 := rdrawn_below hd2; replace HB := Aside0.mk (HB.out.trans (hb2.mono HB.out.size)); clear hb2 hd2))
  go_ret2
  first | exact ⟨rfl, HB.out⟩ | exact ⟨rfl, below_alloc HB.out _⟩

set_option maxHeartbeats 8000000 in
set_option maxRecDepth 100000 in
theorem rev_xok (k jb tm nd lm : Int) (l : List Int) (A : Option Addr) (c : Nat) (w : World) (ko jo uo no mo : Int) (lo : List Int) (ws : List ByteArray) (t : ByteArray) (hE : Env w) (hO : ∀ W, Env W → Kd.C (Kd.int .i64) W A l.length l → Calls Tryd.prog 19 #[.agg #[.int .i64 k, .int .i64 jb, .int .i64 tm, .int .i64 nd, .int .i64 lm, .slice A l.length c]] W (fun x w' => ∃ A1 c1 A2 c2, x = .returned (.tuple #[.agg #[.int .i64 ko, .int .i64 jo, .int .i64 uo, .int .i64 no, .int .i64 mo, .slice A1 lo.length c1], .slice A2 ws.length c2]) ∧ ws.length ≤ c2 ∧ lo.length ≤ c1 ∧ Kd.C (Kd.int .i64) w' A1 lo.length lo ∧ Kd.C Kd.string w' A2 ws.length ws ∧ Below W.heap.size W w')) (hC : Kd.C (Kd.int .i64) w A l.length l)
    (hS : ∀ W A1 c1, Kd.C (Kd.int .i64) W A1 lo.length lo → lo.length ≤ c1 → Kd.C (Kd.int .i64) W A l.length l → Calls Tryd.prog 20 #[.agg #[.int .i64 ko, .int .i64 jo, .int .i64 uo, .int .i64 no, .int .i64 mo, .slice A1 lo.length c1], .agg #[.int .i64 k, .int .i64 jb, .int .i64 tm, .int .i64 nd, .int .i64 lm, .slice A l.length c]] W fun e w' => e = .returned (.bool true) ∧ Below W.heap.size W w')
    (hF : ∀ W, Kd.C (Kd.int .i64) W A l.length l → Calls Tryd.prog 21 #[.slice A l.length c] W fun e w' => e = .returned (.bool true) ∧ Drawn0 W w')
    (hW : ∀ W A2 c2, Kd.C Kd.string W A2 ws.length ws → ws.length ≤ c2 → Calls Tryd.prog 23 #[.slice A2 ws.length c2] W fun e w' => e = .returned (.string t) ∧ Drawn0 W w')
    (f0 : ((ws.length : Int) == 0) = false) (f2 : decide (jb < 0) = false) (f3 : decide (tm < 0) = false) (f4 : decide (nd < 0) = false) (f5 : decide (lm < 0) = false) (f7 : (k == 3) = false) (f8 : (k == 2) = false) :
    Calls Tryd.prog 8 #[.agg #[.int .i64 k, .int .i64 jb, .int .i64 tm, .int .i64 nd, .int .i64 lm, .slice A l.length c]] w fun x w' => x = .returned (.tuple #[.string t, .int .i64 0]) ∧ Below w.heap.size w w' := by
  have HO := Lib.hid hO
  have HS := Lib.hid hS
  have HF := Lib.hid hF
  have HW := Lib.hid hW
  have HC := Aside0.mk hC
  have hB0 := (Below.refl w.heap.size w).alloc (Nat.le_refl _) (.cells (evCells ⟨k, jb, tm, nd, lm, l⟩ A c) 24)
  have HC0 := Aside0.mk (Kd.C_below hC hB0)
  have HE0 := Aside0.mk (hE.step hB0)
  have HB0 := Aside0.mk hB0
  have HI0 := Aside0.mk (alloc_ev (w := w) rfl ⟨k, jb, tm, nd, lm, l⟩ A c)
  clear hO hS hF hW hC hE hB0
  go_enter Tryd.func8, Tryd.ntmps8
  go_wp2_with (first
    | (go_at_call 19; refine Calls.mono (HO.out _ HE0.out HC0.out) ?_; rintro x w1 ⟨A1, c1, A2, c2, rfl, hc2, hc1, hC1, hC2, hb1⟩; have HC1 := Aside0.mk hC1; have Hc1 := Aside0.mk hc1; have HC2 := Aside0.mk hC2; have Hc2 := Aside0.mk hc2; have HCl := Aside0.mk (Kd.C_below HC0.out hb1); have HB := Aside0.mk (HB0.out.trans (hb1.mono HB0.out.size)); have HI := Aside0.mk (ev_below HI0.out hb1); clear hc2 hc1 hC1 hC2 hb1; obtain ⟨c0, c1', c2', c3, c4, c5, cf⟩ := ev_cells HI.out; have hlt := blk_lt HI.out; (try dsimp only at c0 c1' c2' c3 c4 c5))
    | (go_at_call 20; refine Calls.mono (HS.out _ A1 c1 (Kd.C_alloc HC1.out _) Hc1.out (Kd.C_alloc HCl.out _)) ?_; rintro x w2 ⟨rfl, hb2'⟩; have hb2 := (below_alloc (Below.refl _ w1) (.cells #[.int .i64 ko, .int .i64 jo, .int .i64 uo, .int .i64 no, .int .i64 mo, .slice A1 lo.length c1] 24)).trans (hb2'.mono (Nat.le_of_lt (by simp))); clear hb2'; clear c0 c1' c2' c3 c4 c5 cf hlt; replace HC2 := Aside0.mk (Kd.C_below HC2.out hb2); replace HCl := Aside0.mk (Kd.C_below HCl.out hb2); replace HB := Aside0.mk (HB.out.trans (hb2.mono HB.out.size)); replace HI := Aside0.mk (ev_below HI.out hb2); clear hb2; obtain ⟨c0, c1', c2', c3, c4, c5, cf⟩ := ev_cells HI.out; have hlt := blk_lt HI.out; (try dsimp only at c0 c1' c2' c3 c4 c5))
    | (go_at_call 21; refine Calls.mono (HF.out _ HCl.out) ?_; rintro x w2 ⟨rfl, hd2⟩; clear c0 c1' c2' c3 c4 c5 cf hlt; have hb2 := rdrawn_below hd2; replace HC2 := Aside0.mk (Kd.C_below HC2.out hb2); replace HCl := Aside0.mk (Kd.C_below HCl.out hb2); replace HB := Aside0.mk (HB.out.trans (hb2.mono HB.out.size)); replace HI := Aside0.mk (ev_below HI.out hb2); clear hb2 hd2; obtain ⟨c0, c1', c2', c3, c4, c5, cf⟩ := ev_cells HI.out; have hlt := blk_lt HI.out; (try dsimp only at c0 c1' c2' c3 c4 c5))
    | (go_at_call 23; refine Calls.mono (HW.out _ A2 c2 HC2.out Hc2.out) ?_; rintro x w2 ⟨rfl, hd2⟩; have hb2 := rdrawn_below hd2; replace HB := Aside0.mk (HB.out.trans (hb2.mono HB.out.size)); clear hb2 hd2))
  go_ret2
  first | exact ⟨rfl, HB.out⟩ | exact ⟨rfl, below_alloc HB.out _⟩

theorem rsame_any (a b : Ev) (A1 A : Option Addr) (c1 c : Nat) (W : World) (h1 : Kd.C (Kd.int .i64) W A1 a.list.length a.list) (hc1 : a.list.length ≤ c1) (h2 : Kd.C (Kd.int .i64) W A b.list.length b.list) (hc : b.list.length ≤ c) (hl : a.list.length ≤ 4294967296) :
    Calls Tryd.prog 20 #[.agg (evCells a A1 c1), .agg (evCells b A c)] W fun e w' => e = .returned (.bool (decide (a = b))) ∧ Below W.heap.size W w' :=
  backfillref09_same.calls (a.list.length + 1) a.kind a.job a.tm a.nodes a.limit A1 c1 a.list b.kind b.job b.tm b.nodes b.limit A c b.list _ W h1 hc1 h2 hc (rsame_f a b (by omega) _ (by omega))
theorem rfrom0_any (A : Option Addr) (c : Nat) (l : List Int) (W : World) (h : Kd.C (Kd.int .i64) W A l.length l) (hc : l.length ≤ c) (hl : l.length ≤ 4294967296) :
    Calls Tryd.prog 21 #[.slice A l.length c] W fun e w' => e = .returned (.bool (decide (nonneg l))) ∧ Drawn0 W w' := backfillref09_from0.calls (l.length + 1) A c l _ W h hc (rfrom0_f l (by omega) _ (by omega))
theorem rrises_any (A : Option Addr) (c : Nat) (l : List Int) (W : World) (h : Kd.C (Kd.int .i64) W A l.length l) (hc : l.length ≤ c) (hl : l.length ≤ 4294967296) :
    Calls Tryd.prog 22 #[.slice A l.length c] W fun e w' => e = .returned (.bool (decide (risesP (-1) l))) ∧ Drawn0 W w' := backfillref09_rises.calls (l.length + 1) A c l _ W h hc (rrises_f l (by omega) _ (by omega))
theorem evW_len (e : Ev) : (evW e).length ≤ 5 + e.list.length := by
  unfold evW
  repeat' split
  all_goals simp
  all_goals omega
theorem evT_len (e : Ev) (hr : EvR e) (hl : e.list.length ≤ 4294967296) : (evT e).length ≤ 94489281000 := by
  obtain ⟨rj, rt, rn, rl, rls⟩ := hr
  have h0 := numsL_len e.list rls
  have h1 := numsL_len [e.tm] (rng_mem1 rt)
  have h2 := numsL_len [e.job, e.tm] (rng_mem2 rj rt)
  have h4 := numsL_len [e.job, e.tm, e.nodes, e.limit] (by simp only [List.mem_cons, List.not_mem_nil, or_false]; rintro n (rfl | rfl | rfl | rfl) <;> assumption)
  have h3 := stateL_len e.nodes
  simp only [List.length_cons, List.length_nil] at h1 h2 h4
  rw [← ofL_size]
  by_cases hk : 1 ≤ e.kind ∧ e.kind ≤ 7
  · have : e.kind = 1 ∨ e.kind = 2 ∨ e.kind = 3 ∨ e.kind = 4 ∨ e.kind = 5 ∨ e.kind = 6 ∨ e.kind = 7 := by omega
    rcases this with h | h | h | h | h | h | h
    · rw [evT1 h]; simp only [ByteArray.size_append, ofL_size]; simp [wSubmit]; omega
    · rw [evT2 h]; simp only [ByteArray.size_append, ofL_size]; simp [wStart]; omega
    · rw [evT3 h]
      have : (⟨#[32]⟩ : ByteArray).size = 1 := rfl
      simp only [ByteArray.size_append, ofL_size, this]; simp [wEnd]; omega
    · rw [evT4 h]; simp only [ByteArray.size_append, ofL_size]; simp [wPin]; omega
    · rw [evT5 h]; simp only [ByteArray.size_append, ofL_size]; simp [wPass]; omega
    · rw [evT6 h]; simp only [ByteArray.size_append, ofL_size]; simp [wTick]; omega
    · rw [evT7 h]; simp only [ByteArray.size_append, ofL_size]; simp [wDecay]; omega
  · have : evW e = [] := by
      unfold evW
      rw [if_neg (by omega), if_neg (by omega), if_neg (by omega), if_neg (by omega), if_neg (by omega), if_neg (by omega), if_neg (by omega)]
    unfold evT
    rw [this]
    simp [Lib.join, ofL_size]
theorem rwords_any (e : Ev) (hr : EvR e) (hl : e.list.length ≤ 4294967296) (A2 : Option Addr) (c2 : Nat) (W : World) (h : Kd.C Kd.string W A2 ((evW e).map ofL).length ((evW e).map ofL)) (hc : ((evW e).map ofL).length ≤ c2) :
    Calls Tryd.prog 23 #[.slice A2 ((evW e).map ofL).length c2] W fun x w' => x = .returned (.string (ofL (evT e))) ∧ Drawn0 W w' := by
  have hlen := evW_len e
  have hd : dat ((evW e).map ofL) = evW e := dat_ofL _
  have ht := evT_len e hr hl
  have := words_f ((evW e).map ofL) (by rw [List.length_map]; omega) (by rw [hd]; show (evT e).length ≤ _; omega) (((evW e).map ofL).length + 1) (by omega)
  rw [hd] at this
  exact backfillref09_words.calls _ A2 c2 _ _ W h hc this

/-- The reference's Event answers as the code's. -/
theorem revent_any (e : Ev) (A : Option Addr) (c : Nat) (w : World) (hE : Env w) (hr : EvR e) (hC : Kd.C (Kd.int .i64) w A e.list.length e.list) (hc : e.list.length ≤ c) (hl : e.list.length ≤ 4294967296) :
    Calls Tryd.prog 8 #[.agg (evCells e A c)] w (EvPost (evA e) w) := by
  have hO := fun W hE hC => only_any e A c W hE hr hC hc hl
  have hol : (onlyE e).list.length ≤ 4294967296 := by
    unfold onlyE
    dsimp only
    split
    · exact hl
    · exact Nat.zero_le _
  have hS := fun W A1 c1 h1 hc1 h2 => rsame_any (onlyE e) e A1 A c1 c W h1 hc1 h2 hc hol
  have hF := fun W h => rfrom0_any A c e.list W h hc hl
  have hM := fun W h => rrises_any A c e.list W h hc hl
  have hW := fun A2 c2 W h hc => rwords_any e hr hl A2 c2 W h hc
  have hiff := refP_iff e
  have hbad : ¬ refP e → evA e = ([], 90) := fun h => if_neg (fun h' => h (hiff.2 h'))
  have hgood : refP e → evA e = (evT e, 0) := fun h => if_pos (hiff.1 h)
  unfold refP at hbad hgood
  have hwl : ((evW e).map ofL).length = 0 ↔ ¬ (1 ≤ e.kind ∧ e.kind ≤ 7) := by
    unfold evW
    rw [List.length_map]
    repeat' split
    all_goals simp
    all_goals omega
  clear hiff hr hol
  generalize (evW e).map ofL = ws at hO hW hwl
  generalize evT e = t at hW hgood
  generalize onlyE e = o at hO hS hbad hgood
  obtain ⟨k, jb, tm, nd, lm, l⟩ := e
  generalize evA ⟨k, jb, tm, nd, lm, l⟩ = r at hbad hgood ⊢
  obtain ⟨ko, jo, uo, no, mo, lo⟩ := o
  dsimp only at *
  have bad : ∀ {P : Prop}, (¬ P → r = ([], 90)) → ¬ P → Calls Tryd.prog 8 #[.agg (evCells ⟨k, jb, tm, nd, lm, l⟩ A c)] w (fun x w' => x = .returned (.tuple #[.string ⟨#[]⟩, .int .i64 90]) ∧ Below w.heap.size w w') → Calls Tryd.prog 8 #[.agg (evCells ⟨k, jb, tm, nd, lm, l⟩ A c)] w (EvPost r w) := by
    intro P h1 h2 h
    rw [h1 h2]
    exact h
  by_cases h0 : 1 ≤ k ∧ k ≤ 7
  · have f0 : ((ws.length : Int) == 0) = false := by
      have := mt hwl.1 (not_not_intro h0)
      rw [beq_eq_false_iff_ne]
      omega
    by_cases h1 : (⟨ko, jo, uo, no, mo, lo⟩ : Ev) = ⟨k, jb, tm, nd, lm, l⟩
    · rw [decide_eq_true h1] at hS
      by_cases h2 : jb < 0
      · exact bad hbad (by omega) (rev_jb k jb tm nd lm l A c w ko jo uo no mo lo ws t hE hO hC hS f0 (decide_eq_true h2))
      by_cases h3 : tm < 0
      · exact bad hbad (by omega) (rev_tm k jb tm nd lm l A c w ko jo uo no mo lo ws t hE hO hC hS f0 (decide_eq_false h2) (decide_eq_true h3))
      by_cases h4 : nd < 0
      · exact bad hbad (by omega) (rev_nd k jb tm nd lm l A c w ko jo uo no mo lo ws t hE hO hC hS f0 (decide_eq_false h2) (decide_eq_false h3) (decide_eq_true h4))
      by_cases h5 : lm < 0
      · exact bad hbad (by omega) (rev_lm k jb tm nd lm l A c w ko jo uo no mo lo ws t hE hO hC hS f0 (decide_eq_false h2) (decide_eq_false h3) (decide_eq_false h4) (decide_eq_true h5))
      by_cases h6 : nonneg l
      · rw [decide_eq_true h6] at hF
        by_cases h7 : k = 3
        · subst h7
          by_cases h8 : nd < 3
          · exact bad hbad (fun h => h.2.2.2.2.2.2.2.1 ⟨rfl, .inl h8⟩) (rev_x3lo jb tm nd lm l A c w ko jo uo no mo lo ws t hE hO hC hS hF f0 (decide_eq_false h2) (decide_eq_false h3) (decide_eq_false h4) (decide_eq_false h5) (decide_eq_true h8))
          by_cases h9 : 6 < nd
          · exact bad hbad (fun h => h.2.2.2.2.2.2.2.1 ⟨rfl, .inr h9⟩) (rev_x3hi jb tm nd lm l A c w ko jo uo no mo lo ws t hE hO hC hS hF f0 (decide_eq_false h2) (decide_eq_false h3) (decide_eq_false h4) (decide_eq_false h5) (decide_eq_false h8) (decide_eq_true h9))
          rw [hgood ⟨h0, h1, by omega, by omega, by omega, by omega, h6, by omega, by omega⟩]
          exact rev_x3ok jb tm nd lm l A c w ko jo uo no mo lo ws (ofL t) hE hO hC hS hF (fun W A2 c2 h hc => hW A2 c2 W h hc) f0 (decide_eq_false h2) (decide_eq_false h3) (decide_eq_false h4) (decide_eq_false h5) (decide_eq_false h8) (decide_eq_false h9)
        by_cases h8 : k = 2
        · subst h8
          by_cases h9 : risesP (-1) l
          · rw [decide_eq_true h9] at hM
            rw [hgood ⟨h0, h1, by omega, by omega, by omega, by omega, h6, by omega, fun h => h.2 h9⟩]
            exact rev_x2ok jb tm nd lm l A c w ko jo uo no mo lo ws (ofL t) hE hO hC hS hF hM (fun W A2 c2 h hc => hW A2 c2 W h hc) f0 (decide_eq_false h2) (decide_eq_false h3) (decide_eq_false h4) (decide_eq_false h5)
          · rw [decide_eq_false h9] at hM
            exact bad hbad (fun h => h.2.2.2.2.2.2.2.2 ⟨rfl, h9⟩) (rev_x2no jb tm nd lm l A c w ko jo uo no mo lo ws t hE hO hC hS hF hM f0 (decide_eq_false h2) (decide_eq_false h3) (decide_eq_false h4) (decide_eq_false h5))
        rw [hgood ⟨h0, h1, by omega, by omega, by omega, by omega, h6, by omega, by omega⟩]
        exact rev_xok k jb tm nd lm l A c w ko jo uo no mo lo ws (ofL t) hE hO hC hS hF (fun W A2 c2 h hc => hW A2 c2 W h hc) f0 (decide_eq_false h2) (decide_eq_false h3) (decide_eq_false h4) (decide_eq_false h5) (by rw [beq_eq_false_iff_ne]; exact h7) (by rw [beq_eq_false_iff_ne]; exact h8)
      · rw [decide_eq_false h6] at hF
        exact bad hbad (fun h => h6 h.2.2.2.2.2.2.1) (rev_bf k jb tm nd lm l A c w ko jo uo no mo lo ws t hE hO hC hS hF f0 (decide_eq_false h2) (decide_eq_false h3) (decide_eq_false h4) (decide_eq_false h5))
    · rw [decide_eq_false h1] at hS
      exact bad hbad (fun h => h1 h.2.1) (rev_bs k jb tm nd lm l A c w ko jo uo no mo lo ws t hE hO hC hS f0)
  · have f0 : ((ws.length : Int) == 0) = true := by
      have := hwl.2 h0
      rw [this]
      rfl
    exact bad hbad (fun h => h0 h.1) (rev_l0 k jb tm nd lm l A c w ko jo uo no mo lo ws t hE hO hC f0)

end Go.Proofs.YtokioddaonknpaaDoor.A
