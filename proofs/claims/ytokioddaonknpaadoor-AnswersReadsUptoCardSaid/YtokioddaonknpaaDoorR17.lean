/- Own text (printed by gen15.py): the walk of the reference's ReadEvent. -/
import Derived.Test.YtokioddaonknpaaDoorR16
namespace Go.Proofs.YtokioddaonknpaaDoor.A
open Go.RowKit Go.Proofs.YtokioddaonknpaaDoorW.PrintWords Go.Proofs.YtokioddaonknpaaDoor.PAnswersReads
set_option linter.unusedSimpArgs false
set_option linter.unusedVariables false
set_option maxHeartbeats 8000000
set_option maxRecDepth 100000
theorem rdBad {w w4 : World} (h : Below w.heap.size w w4) : RdOf (evZ, 90) w (.returned (.tuple #[.agg (evCells evZ none 0), .int .i64 90])) (put6 w4 w.heap.size evZ none 0) := ⟨none, 0, rfl, Nat.le_refl _, Kd.C_nil _ _, put6_below h (Nat.le_refl _) evZ none 0⟩
theorem hltL {w w1 : World} {o : Obj} {g : Nat} (h1 : (w.alloc o).heap.size ≤ g) (h2 : g < w1.heap.size) : w.heap.size < w1.heap.size := by rw [World.size_alloc] at h1; omega
theorem beqT {a : List UInt8} {s : ByteArray} (h : a = s.data.toList) : ((ofL a).toList == s.toList) = true := by rw [beq_iff_eq, toList_data, toList_data, data_ofL]; exact h
theorem beqF {a : List UInt8} {s : ByteArray} (h : ¬ a = s.data.toList) : ((ofL a).toList == s.toList) = false := by rw [beq_eq_false_iff_ne, toList_data, toList_data, data_ofL]; exact h

theorem rr_f5 (s : ByteArray) (l : List ByteArray) (m : Nat) (x0 : ByteArray) (hx0 : x0 = l.getD 0 ByteArray.empty) (hm : l.length = m + 1) (hmb : m ≤ 2147483649) (hx : x0 = ⟨#[112, 97, 115, 115]⟩) (w : World) (hE : Env w)
    (hsp : ∀ W, Env W → Calls Tryd.prog 28 #[.string s, .int .u8 32] W (CutPost l m W)) (hm1 : 1 ≤ m) (n : List Int) (hf : decide (1 ≤ (n.length : Int)) = true) (hk : 1 ≤ n.length) (hnl : n.length ≤ 4294967296) (hnr : ∀ x ∈ n, Rng x) (hrd : ∀ W A2 c2, Kd.C Kd.string W A2 m (l.drop 1) → m ≤ c2 → Calls Tryd.prog 30 #[.slice A2 m c2] W (RdSome n W)) (r : Ev × Int) (ev : Ev) (hev : ev = ⟨5, 0, (n.getD 0 0), 0, 0, n.drop 1⟩) (hr : r = if okP ev ∧ evT ev = s.data.toList then (ev, 0) else (evZ, 90)) :
    Calls Tryd.prog 11 #[.string s] w (RdOf r w) := by
  subst hx
  have hB0 := (Below.refl w.heap.size w).alloc (Nat.le_refl _) (.cells (evCells evZ none 0) 24)
  have HE0 := Km (alloc_ev (w := w) rfl evZ none 0)
  have HS := Lib.hid (hsp _ (hE.step hB0))
  have HB0 := Km hB0
  have HE := Km hE
  have HX := Km hx0
  have HM := Km hm
  clear hsp hB0 hE hx0 hm
  have i1 : (0 : Int) < ((m + 1 : Nat) : Int) := by omega
  have HRD := Lib.hid hrd
  clear hrd
  have k0 : (0 : Int) < (n.length : Int) := by omega
  obtain ⟨v0, hv0_⟩ : ∃ v, v = n.getD 0 0 := ⟨_, rfl⟩
  have HVR := Km (show Rng v0 ∧ True from ⟨(by rw [hv0_]; exact getD_rng hnr 0), trivial⟩)
  obtain ⟨ls, hls⟩ : ∃ ls, ls = n.drop 1 := ⟨_, rfl⟩
  rw [← hls] at hev
  have HNR := Km (show ∀ x ∈ ls, Rng x from fun x h => hnr x (List.mem_of_mem_drop (by rw [hls] at h; exact h)))
  have HLS := Km hls
  clear hls
  replace hev : ev = ⟨5, 0, v0, 0, 0, ls⟩ := by rw [hev, hv0_]
  have HV := Km (show v0 = n.getD 0 0 ∧ True from ⟨hv0_, trivial⟩)
  have HK := Km hk
  have HNL := Km hnl
  have HEV := Km hev
  have HRR := Km hr
  clear hk hnl hnr hev hr hv0_
  go_enter Tryd.func11, Tryd.ntmps11
  go_wp2_with (go_at_call 28; refine HS.out.mono ?_; rintro x w1 ⟨g, c, rfl, hg, hc, hC, hb1⟩; refine Hid.out ?_)
  refine Lib.hid ?_
  have hB1 := HB0.out.trans (hb1.mono HB0.out.size)
  obtain ⟨ad, e, hc0⟩ := Kd.at_string hC 0 (by omega) i1
  cases e
  replace hc0 : w1.cell? ⟨g, 0, none⟩ = some (.string ⟨#[112, 97, 115, 115]⟩) := hc0.trans (by rw [HX.out]; rfl)
  have hgl := World.block_lt_of_cell? w1 _ hc0
  have HGL := Km hgl
  have HC0 := Km hc0
  have HR1 := Km (ev_below HE0.out hb1)
  have HHC := Km hc
  have HHG := Km hg
  have HC1 := Km (Kd.C_alloc hC (.cells (evCells evZ none 0) 24))
  have HB2 := Km (below_alloc hB1 (.cells (evCells evZ none 0) 24))
  have HR2 := Km (ev_below HR1.out (ba (o := .cells (evCells evZ none 0) 24)))
  have HE2 := Km (alloc_ev (w := w1) rfl evZ none 0)
  clear hB1 hb1 hC HB0 HE0 hg HR1 hc
  have i5 : ¬ c = 1 := by have := HHC.out; omega
  have HCT := Km (show Kd.C Kd.string (w1.alloc (.cells (evCells evZ none 0) 24)) (some ⟨g, 1, none⟩) m (l.drop 1) by
    have h := Kd.C_drop (m := 1) (c := c) (k := Kd.string) (by rw [HM.out]; exact HC1.out) (by rw [HM.out]; omega) (by rw [HM.out]; exact HHC.out)
    rw [if_neg i5, List.length_drop, HM.out] at h
    exact h)
  clear hm1
  go_wp2_with (go_at_call 30; refine (HRD.out _ _ _ HCT.out (by have := HHC.out; omega)).mono ?_; rintro x w2 ⟨A3, c3, rfl, hc3, hC3, hA3, hb2⟩; refine Hid.out ?_)
  refine Lib.hid ?_
  have HR3 := Km (ev_below HR2.out hb2)
  have HE3 := Km (ev_below HE2.out hb2)
  have HB3 := Km (HB2.out.trans (hb2.mono HB2.out.size))
  have hx2 : w2.cell? ⟨g, 0, none⟩ = some (.string ⟨#[112, 97, 115, 115]⟩) := (hb2.cell (p := ⟨g, 0, none⟩) (by rw [World.size_alloc]; have := HGL.out; show g < _; omega)).trans ((Below.cell ba (p := ⟨g, 0, none⟩) HGL.out).trans HC0.out)
  obtain ⟨o0, o1, o2, o3, o4, o5, of_⟩ := ev_cells HE3.out
  dsimp only [evZ] at o0 o1 o2 o3 o4 o5
  have HC3 := Km hC3
  have HA3 := Km hA3
  have HCC := Km hc3
  obtain ⟨a3, rfl, m0⟩ := Kd.at_int hC3 0 (by omega) k0
  replace m0 : w2.cell? a3 = some (.int .i64 v0) := Eq.trans m0 (by rw [HV.out.1]; rfl)
  clear hb2 hc0 hgl i5 hc3 hC3 hA3
  go_wp2_with (fail)
  go_region
  go_wp2_with (go_at_call 8; refine Hid.out ?_)
  all_goals refine Lib.hid ?_
  · have hyes : c3 = 1 := by assumption
    have hdl : ls.length = n.length - 1 := by rw [HLS.out]; exact List.length_drop
    have hD := Kd.C_drop (m := 1) HC3.out HK.out HCC.out
    rw [if_pos hyes, ← HLS.out] at hD
    have HD := Km hD
    clear hD
    rw [← hdl]
    refine calls_gen ?_
    intro W hW
    have hlt : w.heap.size < w1.heap.size := hltL HHG.out HGL.out
    have hle : w.heap.size ≤ w1.heap.size := Nat.le_of_lt hlt
    have HE4 := Km (show IsEv W w1.heap.size ⟨5, 0, v0, 0, 0, ls⟩ (some a3) 0 by rw [hW]; exact (ev_below (put6_ev HE3.out ⟨5, 0, v0, 0, 0, ls⟩ (some a3) 0) (below_drew (Below.refl _ _))))
    have HB4 := Km (show Below w.heap.size w W by rw [hW]; exact (below_drew (put6_below HB3.out hle ⟨5, 0, v0, 0, 0, ls⟩ (some a3) 0)))
    have hBb : Below w1.heap.size w2 W := by rw [hW]; exact (below_drew (put6_below (Below.refl w1.heap.size w2) (Nat.le_refl _) ⟨5, 0, v0, 0, 0, ls⟩ (some a3) 0))
    have HR4 := Km (show IsEv W w.heap.size evZ none 0 from (hBb.block _ hlt).trans HR3.out)
    have hfb : 0 < n.length → w1.heap.size < a3.block := fun h => by have := HA3.out a3 rfl h; rw [World.size_alloc] at this; omega
    have hfa : ∀ ad : Addr, ((some a3) : Option Addr) = some ad → 0 < ls.length → ad.block ≠ w1.heap.size := fun ad h hp => by
      have h1 := hfb (by omega)
      injection h with h
      rw [← h]
      show a3.block ≠ _
      omega
    have HC4 := Km (show Kd.C (Kd.int .i64) W (some a3) ls.length ls by rw [hW]; exact (Kd.C_drew (Kd.C_keep (d := (0 : Int)) (g := w1.heap.size) HD.out (put6_keep w2 w1.heap.size ⟨5, 0, v0, 0, 0, ls⟩ (some a3) 0) hfa)))
    have HA4 := Km (show ∀ ad : Addr, ((some a3) : Option Addr) = some ad → 0 < ls.length → ad.block ≠ w.heap.size from fun ad h hp => by
      have h1 := hfb (by omega)
      injection h with h
      rw [← h]
      show a3.block ≠ _
      omega)
    have HL4 := Km (show ls.length ≤ 0 by have := HCC.out; omega)
    have hea := revent_any ⟨5, 0, v0, 0, 0, ls⟩ (some a3) 0 W (HE.out.step HB4.out) (by obtain ⟨q0, _⟩ := HVR.out; exact ⟨rng0, q0, rng0, rng0, HNR.out⟩) HC4.out HL4.out (by have h1 := HNL.out; have h2 := congrArg List.length HLS.out; rw [List.length_drop] at h2; show ls.length ≤ _; omega)
    rw [show evA ⟨5, 0, v0, 0, 0, ls⟩ = evA ev from by rw [HEV.out]] at hea
    have HEA := Lib.hid hea
    clear hW hBb hea o0 o1 o2 o3 o4 o5 of_ m0 hx2 hdl hfb hfa
    refine Calls.mono HEA.out ?_
    rintro x w4 ⟨rfl, hb4⟩
    have HR5 := Km (ev_below HR4.out hb4)
    have HE5 := Km (ev_below HE4.out hb4)
    have HB5 := Km (HB4.out.trans (hb4.mono HB4.out.size))
    have HC5 := Km (Kd.C_below HC4.out hb4)
    clear hb4
    obtain ⟨r0, r1, r2, r3, r4, r5, rf⟩ := ev_cells HR5.out
    obtain ⟨o0, o1, o2, o3, o4, o5, of_⟩ := ev_cells HE5.out
    (try dsimp only at o0 o1 o2 o3 o4 o5)
    by_cases hok : okP ev
    · have hA : evA ev = (evT ev, 0) := if_pos hok
      rw [hA]
      by_cases heq : evT ev = s.data.toList
      · have hbe : ((ofL (evT ev)).toList == s.toList) = true := beqT heq
        have HRT := Km (HRR.out.trans (if_pos ⟨hok, heq⟩))
        clear hok hA heq
        go_wp2
        refine rd_close (b := w.heap.size) (e := ⟨5, 0, v0, 0, 0, ls⟩) (A := some a3) (c := 0) (code := 0) rfl rfl (put6_ev HR5.out ⟨5, 0, v0, 0, 0, ls⟩ (some a3) 0) ?_
        rw [HRT.out, HEV.out]
        have hBf := put6_below HB5.out (Nat.le_refl _) ⟨5, 0, v0, 0, 0, ls⟩ (some a3) 0
        exact ⟨some a3, 0, rfl, HL4.out, Kd.C_keep (d := (0 : Int)) (g := w.heap.size) HC5.out (put6_keep w4 w.heap.size ⟨5, 0, v0, 0, 0, ls⟩ (some a3) 0) HA4.out, hBf⟩
      · have hbe : ((ofL (evT ev)).toList == s.toList) = false := beqF heq
        have HRT := Km (HRR.out.trans (if_neg (fun h => heq h.2)))
        clear hok hA heq
        go_wp2
        refine rd_close (code := 90) rfl rfl (put6_ev HR5.out evZ none 0) ?_
        rw [HRT.out]
        exact rdBad HB5.out
    · have hA : evA ev = ([], 90) := if_neg hok
      rw [hA]
      have HRT := Km (HRR.out.trans (if_neg (fun h => hok h.1)))
      clear hok hA
      go_wp2
      refine rd_close (code := 90) rfl rfl (put6_ev HR5.out evZ none 0) ?_
      rw [HRT.out]
      exact rdBad HB5.out
  · have hne : ¬ c3 = 1 := by assumption
    have hdl : ls.length = n.length - 1 := by rw [HLS.out]; exact List.length_drop
    have hD := Kd.C_drop (m := 1) HC3.out HK.out HCC.out
    rw [if_neg hne, ← HLS.out] at hD
    have HD := Km hD
    clear hD
    rw [← hdl]
    refine calls_gen ?_
    intro W hW
    have hlt : w.heap.size < w1.heap.size := hltL HHG.out HGL.out
    have hle : w.heap.size ≤ w1.heap.size := Nat.le_of_lt hlt
    have HE4 := Km (show IsEv W w1.heap.size ⟨5, 0, v0, 0, 0, ls⟩ (some ⟨a3.block, a3.off + 1, none⟩) (c3 - 1) by rw [hW]; exact (ev_below (put6_ev HE3.out ⟨5, 0, v0, 0, 0, ls⟩ (some ⟨a3.block, a3.off + 1, none⟩) (c3 - 1)) (below_drew (Below.refl _ _))))
    have HB4 := Km (show Below w.heap.size w W by rw [hW]; exact (below_drew (put6_below HB3.out hle ⟨5, 0, v0, 0, 0, ls⟩ (some ⟨a3.block, a3.off + 1, none⟩) (c3 - 1))))
    have hBb : Below w1.heap.size w2 W := by rw [hW]; exact (below_drew (put6_below (Below.refl w1.heap.size w2) (Nat.le_refl _) ⟨5, 0, v0, 0, 0, ls⟩ (some ⟨a3.block, a3.off + 1, none⟩) (c3 - 1)))
    have HR4 := Km (show IsEv W w.heap.size evZ none 0 from (hBb.block _ hlt).trans HR3.out)
    have hfb : 0 < n.length → w1.heap.size < a3.block := fun h => by have := HA3.out a3 rfl h; rw [World.size_alloc] at this; omega
    have hfa : ∀ ad : Addr, ((some ⟨a3.block, a3.off + 1, none⟩) : Option Addr) = some ad → 0 < ls.length → ad.block ≠ w1.heap.size := fun ad h hp => by
      have h1 := hfb (by omega)
      injection h with h
      rw [← h]
      show a3.block ≠ _
      omega
    have HC4 := Km (show Kd.C (Kd.int .i64) W (some ⟨a3.block, a3.off + 1, none⟩) ls.length ls by rw [hW]; exact (Kd.C_drew (Kd.C_keep (d := (0 : Int)) (g := w1.heap.size) HD.out (put6_keep w2 w1.heap.size ⟨5, 0, v0, 0, 0, ls⟩ (some ⟨a3.block, a3.off + 1, none⟩) (c3 - 1)) hfa)))
    have HA4 := Km (show ∀ ad : Addr, ((some ⟨a3.block, a3.off + 1, none⟩) : Option Addr) = some ad → 0 < ls.length → ad.block ≠ w.heap.size from fun ad h hp => by
      have h1 := hfb (by omega)
      injection h with h
      rw [← h]
      show a3.block ≠ _
      omega)
    have HL4 := Km (show ls.length ≤ (c3 - 1) by have := HCC.out; omega)
    have hea := revent_any ⟨5, 0, v0, 0, 0, ls⟩ (some ⟨a3.block, a3.off + 1, none⟩) (c3 - 1) W (HE.out.step HB4.out) (by obtain ⟨q0, _⟩ := HVR.out; exact ⟨rng0, q0, rng0, rng0, HNR.out⟩) HC4.out HL4.out (by have h1 := HNL.out; have h2 := congrArg List.length HLS.out; rw [List.length_drop] at h2; show ls.length ≤ _; omega)
    rw [show evA ⟨5, 0, v0, 0, 0, ls⟩ = evA ev from by rw [HEV.out]] at hea
    have HEA := Lib.hid hea
    clear hW hBb hea o0 o1 o2 o3 o4 o5 of_ m0 hx2 hdl hfb hfa
    refine Calls.mono HEA.out ?_
    rintro x w4 ⟨rfl, hb4⟩
    have HR5 := Km (ev_below HR4.out hb4)
    have HE5 := Km (ev_below HE4.out hb4)
    have HB5 := Km (HB4.out.trans (hb4.mono HB4.out.size))
    have HC5 := Km (Kd.C_below HC4.out hb4)
    clear hb4
    obtain ⟨r0, r1, r2, r3, r4, r5, rf⟩ := ev_cells HR5.out
    obtain ⟨o0, o1, o2, o3, o4, o5, of_⟩ := ev_cells HE5.out
    (try dsimp only at o0 o1 o2 o3 o4 o5)
    by_cases hok : okP ev
    · have hA : evA ev = (evT ev, 0) := if_pos hok
      rw [hA]
      by_cases heq : evT ev = s.data.toList
      · have hbe : ((ofL (evT ev)).toList == s.toList) = true := beqT heq
        have HRT := Km (HRR.out.trans (if_pos ⟨hok, heq⟩))
        clear hok hA heq
        go_wp2
        refine rd_close (b := w.heap.size) (e := ⟨5, 0, v0, 0, 0, ls⟩) (A := some ⟨a3.block, a3.off + 1, none⟩) (c := (c3 - 1)) (code := 0) rfl rfl (put6_ev HR5.out ⟨5, 0, v0, 0, 0, ls⟩ (some ⟨a3.block, a3.off + 1, none⟩) (c3 - 1)) ?_
        rw [HRT.out, HEV.out]
        have hBf := put6_below HB5.out (Nat.le_refl _) ⟨5, 0, v0, 0, 0, ls⟩ (some ⟨a3.block, a3.off + 1, none⟩) (c3 - 1)
        exact ⟨some ⟨a3.block, a3.off + 1, none⟩, (c3 - 1), rfl, HL4.out, Kd.C_keep (d := (0 : Int)) (g := w.heap.size) HC5.out (put6_keep w4 w.heap.size ⟨5, 0, v0, 0, 0, ls⟩ (some ⟨a3.block, a3.off + 1, none⟩) (c3 - 1)) HA4.out, hBf⟩
      · have hbe : ((ofL (evT ev)).toList == s.toList) = false := beqF heq
        have HRT := Km (HRR.out.trans (if_neg (fun h => heq h.2)))
        clear hok hA heq
        go_wp2
        refine rd_close (code := 90) rfl rfl (put6_ev HR5.out evZ none 0) ?_
        rw [HRT.out]
        exact rdBad HB5.out
    · have hA : evA ev = ([], 90) := if_neg hok
      rw [hA]
      have HRT := Km (HRR.out.trans (if_neg (fun h => hok h.1)))
      clear hok hA
      go_wp2
      refine rd_close (code := 90) rfl rfl (put6_ev HR5.out evZ none 0) ?_
      rw [HRT.out]
      exact rdBad HB5.out

theorem rr_f6 (s : ByteArray) (l : List ByteArray) (m : Nat) (x0 : ByteArray) (hx0 : x0 = l.getD 0 ByteArray.empty) (hm : l.length = m + 1) (hmb : m ≤ 2147483649) (hx : x0 = ⟨#[116, 105, 99, 107]⟩) (w : World) (hE : Env w)
    (hsp : ∀ W, Env W → Calls Tryd.prog 28 #[.string s, .int .u8 32] W (CutPost l m W)) (hm1 : 1 ≤ m) (n : List Int) (hf : ((n.length : Int) == 1) = true) (hk : 1 ≤ n.length) (hnl : n.length ≤ 4294967296) (hnr : ∀ x ∈ n, Rng x) (hrd : ∀ W A2 c2, Kd.C Kd.string W A2 m (l.drop 1) → m ≤ c2 → Calls Tryd.prog 30 #[.slice A2 m c2] W (RdSome n W)) (r : Ev × Int) (ev : Ev) (hev : ev = ⟨6, 0, (n.getD 0 0), 0, 0, []⟩) (hr : r = if okP ev ∧ evT ev = s.data.toList then (ev, 0) else (evZ, 90)) :
    Calls Tryd.prog 11 #[.string s] w (RdOf r w) := by
  subst hx
  have hB0 := (Below.refl w.heap.size w).alloc (Nat.le_refl _) (.cells (evCells evZ none 0) 24)
  have HE0 := Km (alloc_ev (w := w) rfl evZ none 0)
  have HS := Lib.hid (hsp _ (hE.step hB0))
  have HB0 := Km hB0
  have HE := Km hE
  have HX := Km hx0
  have HM := Km hm
  clear hsp hB0 hE hx0 hm
  have i1 : (0 : Int) < ((m + 1 : Nat) : Int) := by omega
  have HRD := Lib.hid hrd
  clear hrd
  have k0 : (0 : Int) < (n.length : Int) := by omega
  obtain ⟨v0, hv0_⟩ : ∃ v, v = n.getD 0 0 := ⟨_, rfl⟩
  have HVR := Km (show Rng v0 ∧ True from ⟨(by rw [hv0_]; exact getD_rng hnr 0), trivial⟩)
  replace hev : ev = ⟨6, 0, v0, 0, 0, []⟩ := by rw [hev, hv0_]
  have HV := Km (show v0 = n.getD 0 0 ∧ True from ⟨hv0_, trivial⟩)
  have HK := Km hk
  have HNL := Km hnl
  have HEV := Km hev
  have HRR := Km hr
  clear hk hnl hnr hev hr hv0_
  go_enter Tryd.func11, Tryd.ntmps11
  go_wp2_with (go_at_call 28; refine HS.out.mono ?_; rintro x w1 ⟨g, c, rfl, hg, hc, hC, hb1⟩; refine Hid.out ?_)
  refine Lib.hid ?_
  have hB1 := HB0.out.trans (hb1.mono HB0.out.size)
  obtain ⟨ad, e, hc0⟩ := Kd.at_string hC 0 (by omega) i1
  cases e
  replace hc0 : w1.cell? ⟨g, 0, none⟩ = some (.string ⟨#[116, 105, 99, 107]⟩) := hc0.trans (by rw [HX.out]; rfl)
  have hgl := World.block_lt_of_cell? w1 _ hc0
  have HGL := Km hgl
  have HC0 := Km hc0
  have HR1 := Km (ev_below HE0.out hb1)
  have HHC := Km hc
  have HHG := Km hg
  have HC1 := Km (Kd.C_alloc hC (.cells (evCells evZ none 0) 24))
  have HB2 := Km (below_alloc hB1 (.cells (evCells evZ none 0) 24))
  have HR2 := Km (ev_below HR1.out (ba (o := .cells (evCells evZ none 0) 24)))
  have HE2 := Km (alloc_ev (w := w1) rfl evZ none 0)
  clear hB1 hb1 hC HB0 HE0 hg HR1 hc
  have i5 : ¬ c = 1 := by have := HHC.out; omega
  have HCT := Km (show Kd.C Kd.string (w1.alloc (.cells (evCells evZ none 0) 24)) (some ⟨g, 1, none⟩) m (l.drop 1) by
    have h := Kd.C_drop (m := 1) (c := c) (k := Kd.string) (by rw [HM.out]; exact HC1.out) (by rw [HM.out]; omega) (by rw [HM.out]; exact HHC.out)
    rw [if_neg i5, List.length_drop, HM.out] at h
    exact h)
  clear hm1
  go_wp2_with (go_at_call 30; refine (HRD.out _ _ _ HCT.out (by have := HHC.out; omega)).mono ?_; rintro x w2 ⟨A3, c3, rfl, hc3, hC3, hA3, hb2⟩; refine Hid.out ?_)
  refine Lib.hid ?_
  have HR3 := Km (ev_below HR2.out hb2)
  have HE3 := Km (ev_below HE2.out hb2)
  have HB3 := Km (HB2.out.trans (hb2.mono HB2.out.size))
  have hx2 : w2.cell? ⟨g, 0, none⟩ = some (.string ⟨#[116, 105, 99, 107]⟩) := (hb2.cell (p := ⟨g, 0, none⟩) (by rw [World.size_alloc]; have := HGL.out; show g < _; omega)).trans ((Below.cell ba (p := ⟨g, 0, none⟩) HGL.out).trans HC0.out)
  obtain ⟨o0, o1, o2, o3, o4, o5, of_⟩ := ev_cells HE3.out
  dsimp only [evZ] at o0 o1 o2 o3 o4 o5
  have HC3 := Km hC3
  have HA3 := Km hA3
  have HCC := Km hc3
  obtain ⟨a3, rfl, m0⟩ := Kd.at_int hC3 0 (by omega) k0
  replace m0 : w2.cell? a3 = some (.int .i64 v0) := Eq.trans m0 (by rw [HV.out.1]; rfl)
  clear hb2 hc0 hgl i5 hc3 hC3 hA3
  go_wp2_with (go_at_call 8; refine Hid.out ?_)
  refine Lib.hid ?_
  refine calls_gen ?_
  intro W hW
  have hlt : w.heap.size < w1.heap.size := hltL HHG.out HGL.out
  have hle : w.heap.size ≤ w1.heap.size := Nat.le_of_lt hlt
  have HE4 := Km (show IsEv W w1.heap.size ⟨6, 0, v0, 0, 0, []⟩ none 0 by rw [hW]; exact (put6_ev HE3.out ⟨6, 0, v0, 0, 0, []⟩ none 0))
  have HB4 := Km (show Below w.heap.size w W by rw [hW]; exact (put6_below HB3.out hle ⟨6, 0, v0, 0, 0, []⟩ none 0))
  have hBb : Below w1.heap.size w2 W := by rw [hW]; exact (put6_below (Below.refl w1.heap.size w2) (Nat.le_refl _) ⟨6, 0, v0, 0, 0, []⟩ none 0)
  have HR4 := Km (show IsEv W w.heap.size evZ none 0 from (hBb.block _ hlt).trans HR3.out)
  have hea := revent_any ⟨6, 0, v0, 0, 0, []⟩ none 0 W (HE.out.step HB4.out) (by obtain ⟨q0, _⟩ := HVR.out; exact ⟨rng0, q0, rng0, rng0, fun _ h => by cases h⟩) (Kd.C_nil _ _) (Nat.le_refl _) (Nat.zero_le _)
  rw [show evA ⟨6, 0, v0, 0, 0, []⟩ = evA ev from by rw [HEV.out]] at hea
  have HEA := Lib.hid hea
  clear hW hBb hea o0 o1 o2 o3 o4 o5 of_ m0 hx2
  refine Calls.mono HEA.out ?_
  rintro x w4 ⟨rfl, hb4⟩
  have HR5 := Km (ev_below HR4.out hb4)
  have HE5 := Km (ev_below HE4.out hb4)
  have HB5 := Km (HB4.out.trans (hb4.mono HB4.out.size))
  clear hb4
  obtain ⟨r0, r1, r2, r3, r4, r5, rf⟩ := ev_cells HR5.out
  obtain ⟨o0, o1, o2, o3, o4, o5, of_⟩ := ev_cells HE5.out
  (try dsimp only at o0 o1 o2 o3 o4 o5)
  by_cases hok : okP ev
  · have hA : evA ev = (evT ev, 0) := if_pos hok
    rw [hA]
    by_cases heq : evT ev = s.data.toList
    · have hbe : ((ofL (evT ev)).toList == s.toList) = true := beqT heq
      have HRT := Km (HRR.out.trans (if_pos ⟨hok, heq⟩))
      clear hok hA heq
      go_wp2
      refine rd_close (b := w.heap.size) (e := ⟨6, 0, v0, 0, 0, []⟩) (A := none) (c := 0) (code := 0) rfl rfl (put6_ev HR5.out ⟨6, 0, v0, 0, 0, []⟩ none 0) ?_
      rw [HRT.out, HEV.out]
      have hBf := put6_below HB5.out (Nat.le_refl _) ⟨6, 0, v0, 0, 0, []⟩ none 0
      exact ⟨none, 0, rfl, (Nat.le_refl _), Kd.C_nil _ _, hBf⟩
    · have hbe : ((ofL (evT ev)).toList == s.toList) = false := beqF heq
      have HRT := Km (HRR.out.trans (if_neg (fun h => heq h.2)))
      clear hok hA heq
      go_wp2
      refine rd_close (code := 90) rfl rfl (put6_ev HR5.out evZ none 0) ?_
      rw [HRT.out]
      exact rdBad HB5.out
  · have hA : evA ev = ([], 90) := if_neg hok
    rw [hA]
    have HRT := Km (HRR.out.trans (if_neg (fun h => hok h.1)))
    clear hok hA
    go_wp2
    refine rd_close (code := 90) rfl rfl (put6_ev HR5.out evZ none 0) ?_
    rw [HRT.out]
    exact rdBad HB5.out

theorem rr_f7 (s : ByteArray) (l : List ByteArray) (m : Nat) (x0 : ByteArray) (hx0 : x0 = l.getD 0 ByteArray.empty) (hm : l.length = m + 1) (hmb : m ≤ 2147483649) (hx : x0 = ⟨#[100, 101, 99, 97, 121]⟩) (w : World) (hE : Env w)
    (hsp : ∀ W, Env W → Calls Tryd.prog 28 #[.string s, .int .u8 32] W (CutPost l m W)) (hm1 : 1 ≤ m) (n : List Int) (hf : ((n.length : Int) == 1) = true) (hk : 1 ≤ n.length) (hnl : n.length ≤ 4294967296) (hnr : ∀ x ∈ n, Rng x) (hrd : ∀ W A2 c2, Kd.C Kd.string W A2 m (l.drop 1) → m ≤ c2 → Calls Tryd.prog 30 #[.slice A2 m c2] W (RdSome n W)) (r : Ev × Int) (ev : Ev) (hev : ev = ⟨7, 0, (n.getD 0 0), 0, 0, []⟩) (hr : r = if okP ev ∧ evT ev = s.data.toList then (ev, 0) else (evZ, 90)) :
    Calls Tryd.prog 11 #[.string s] w (RdOf r w) := by
  subst hx
  have hB0 := (Below.refl w.heap.size w).alloc (Nat.le_refl _) (.cells (evCells evZ none 0) 24)
  have HE0 := Km (alloc_ev (w := w) rfl evZ none 0)
  have HS := Lib.hid (hsp _ (hE.step hB0))
  have HB0 := Km hB0
  have HE := Km hE
  have HX := Km hx0
  have HM := Km hm
  clear hsp hB0 hE hx0 hm
  have i1 : (0 : Int) < ((m + 1 : Nat) : Int) := by omega
  have HRD := Lib.hid hrd
  clear hrd
  have k0 : (0 : Int) < (n.length : Int) := by omega
  obtain ⟨v0, hv0_⟩ : ∃ v, v = n.getD 0 0 := ⟨_, rfl⟩
  have HVR := Km (show Rng v0 ∧ True from ⟨(by rw [hv0_]; exact getD_rng hnr 0), trivial⟩)
  replace hev : ev = ⟨7, 0, v0, 0, 0, []⟩ := by rw [hev, hv0_]
  have HV := Km (show v0 = n.getD 0 0 ∧ True from ⟨hv0_, trivial⟩)
  have HK := Km hk
  have HNL := Km hnl
  have HEV := Km hev
  have HRR := Km hr
  clear hk hnl hnr hev hr hv0_
  go_enter Tryd.func11, Tryd.ntmps11
  go_wp2_with (go_at_call 28; refine HS.out.mono ?_; rintro x w1 ⟨g, c, rfl, hg, hc, hC, hb1⟩; refine Hid.out ?_)
  refine Lib.hid ?_
  have hB1 := HB0.out.trans (hb1.mono HB0.out.size)
  obtain ⟨ad, e, hc0⟩ := Kd.at_string hC 0 (by omega) i1
  cases e
  replace hc0 : w1.cell? ⟨g, 0, none⟩ = some (.string ⟨#[100, 101, 99, 97, 121]⟩) := hc0.trans (by rw [HX.out]; rfl)
  have hgl := World.block_lt_of_cell? w1 _ hc0
  have HGL := Km hgl
  have HC0 := Km hc0
  have HR1 := Km (ev_below HE0.out hb1)
  have HHC := Km hc
  have HHG := Km hg
  have HC1 := Km (Kd.C_alloc hC (.cells (evCells evZ none 0) 24))
  have HB2 := Km (below_alloc hB1 (.cells (evCells evZ none 0) 24))
  have HR2 := Km (ev_below HR1.out (ba (o := .cells (evCells evZ none 0) 24)))
  have HE2 := Km (alloc_ev (w := w1) rfl evZ none 0)
  clear hB1 hb1 hC HB0 HE0 hg HR1 hc
  have i5 : ¬ c = 1 := by have := HHC.out; omega
  have HCT := Km (show Kd.C Kd.string (w1.alloc (.cells (evCells evZ none 0) 24)) (some ⟨g, 1, none⟩) m (l.drop 1) by
    have h := Kd.C_drop (m := 1) (c := c) (k := Kd.string) (by rw [HM.out]; exact HC1.out) (by rw [HM.out]; omega) (by rw [HM.out]; exact HHC.out)
    rw [if_neg i5, List.length_drop, HM.out] at h
    exact h)
  clear hm1
  go_wp2_with (go_at_call 30; refine (HRD.out _ _ _ HCT.out (by have := HHC.out; omega)).mono ?_; rintro x w2 ⟨A3, c3, rfl, hc3, hC3, hA3, hb2⟩; refine Hid.out ?_)
  refine Lib.hid ?_
  have HR3 := Km (ev_below HR2.out hb2)
  have HE3 := Km (ev_below HE2.out hb2)
  have HB3 := Km (HB2.out.trans (hb2.mono HB2.out.size))
  have hx2 : w2.cell? ⟨g, 0, none⟩ = some (.string ⟨#[100, 101, 99, 97, 121]⟩) := (hb2.cell (p := ⟨g, 0, none⟩) (by rw [World.size_alloc]; have := HGL.out; show g < _; omega)).trans ((Below.cell ba (p := ⟨g, 0, none⟩) HGL.out).trans HC0.out)
  obtain ⟨o0, o1, o2, o3, o4, o5, of_⟩ := ev_cells HE3.out
  dsimp only [evZ] at o0 o1 o2 o3 o4 o5
  have HC3 := Km hC3
  have HA3 := Km hA3
  have HCC := Km hc3
  obtain ⟨a3, rfl, m0⟩ := Kd.at_int hC3 0 (by omega) k0
  replace m0 : w2.cell? a3 = some (.int .i64 v0) := Eq.trans m0 (by rw [HV.out.1]; rfl)
  clear hb2 hc0 hgl i5 hc3 hC3 hA3
  go_wp2_with (go_at_call 8; refine Hid.out ?_)
  refine Lib.hid ?_
  refine calls_gen ?_
  intro W hW
  have hlt : w.heap.size < w1.heap.size := hltL HHG.out HGL.out
  have hle : w.heap.size ≤ w1.heap.size := Nat.le_of_lt hlt
  have HE4 := Km (show IsEv W w1.heap.size ⟨7, 0, v0, 0, 0, []⟩ none 0 by rw [hW]; exact (put6_ev HE3.out ⟨7, 0, v0, 0, 0, []⟩ none 0))
  have HB4 := Km (show Below w.heap.size w W by rw [hW]; exact (put6_below HB3.out hle ⟨7, 0, v0, 0, 0, []⟩ none 0))
  have hBb : Below w1.heap.size w2 W := by rw [hW]; exact (put6_below (Below.refl w1.heap.size w2) (Nat.le_refl _) ⟨7, 0, v0, 0, 0, []⟩ none 0)
  have HR4 := Km (show IsEv W w.heap.size evZ none 0 from (hBb.block _ hlt).trans HR3.out)
  have hea := revent_any ⟨7, 0, v0, 0, 0, []⟩ none 0 W (HE.out.step HB4.out) (by obtain ⟨q0, _⟩ := HVR.out; exact ⟨rng0, q0, rng0, rng0, fun _ h => by cases h⟩) (Kd.C_nil _ _) (Nat.le_refl _) (Nat.zero_le _)
  rw [show evA ⟨7, 0, v0, 0, 0, []⟩ = evA ev from by rw [HEV.out]] at hea
  have HEA := Lib.hid hea
  clear hW hBb hea o0 o1 o2 o3 o4 o5 of_ m0 hx2
  refine Calls.mono HEA.out ?_
  rintro x w4 ⟨rfl, hb4⟩
  have HR5 := Km (ev_below HR4.out hb4)
  have HE5 := Km (ev_below HE4.out hb4)
  have HB5 := Km (HB4.out.trans (hb4.mono HB4.out.size))
  clear hb4
  obtain ⟨r0, r1, r2, r3, r4, r5, rf⟩ := ev_cells HR5.out
  obtain ⟨o0, o1, o2, o3, o4, o5, of_⟩ := ev_cells HE5.out
  (try dsimp only at o0 o1 o2 o3 o4 o5)
  by_cases hok : okP ev
  · have hA : evA ev = (evT ev, 0) := if_pos hok
    rw [hA]
    by_cases heq : evT ev = s.data.toList
    · have hbe : ((ofL (evT ev)).toList == s.toList) = true := beqT heq
      have HRT := Km (HRR.out.trans (if_pos ⟨hok, heq⟩))
      clear hok hA heq
      go_wp2
      refine rd_close (b := w.heap.size) (e := ⟨7, 0, v0, 0, 0, []⟩) (A := none) (c := 0) (code := 0) rfl rfl (put6_ev HR5.out ⟨7, 0, v0, 0, 0, []⟩ none 0) ?_
      rw [HRT.out, HEV.out]
      have hBf := put6_below HB5.out (Nat.le_refl _) ⟨7, 0, v0, 0, 0, []⟩ none 0
      exact ⟨none, 0, rfl, (Nat.le_refl _), Kd.C_nil _ _, hBf⟩
    · have hbe : ((ofL (evT ev)).toList == s.toList) = false := beqF heq
      have HRT := Km (HRR.out.trans (if_neg (fun h => heq h.2)))
      clear hok hA heq
      go_wp2
      refine rd_close (code := 90) rfl rfl (put6_ev HR5.out evZ none 0) ?_
      rw [HRT.out]
      exact rdBad HB5.out
  · have hA : evA ev = ([], 90) := if_neg hok
    rw [hA]
    have HRT := Km (HRR.out.trans (if_neg (fun h => hok h.1)))
    clear hok hA
    go_wp2
    refine rd_close (code := 90) rfl rfl (put6_ev HR5.out evZ none 0) ?_
    rw [HRT.out]
    exact rdBad HB5.out

theorem rr_En (s : ByteArray) (l : List ByteArray) (m : Nat) (x0 : ByteArray) (hx0 : x0 = l.getD 0 ByteArray.empty) (hm : l.length = m + 1) (hmb : m ≤ 2147483649) (hx : x0 = ⟨#[101, 110, 100]⟩) (w : World) (hE : Env w)
    (hsp : ∀ W, Env W → Calls Tryd.prog 28 #[.string s, .int .u8 32] W (CutPost l m W)) (hm3 : m = 3) (x3 : ByteArray) (hx3 : x3 = l.getD 3 ByteArray.empty) (hrd : ∀ W A2 c2, Kd.C Kd.string W A2 2 ((l.take 3).drop 1) → 2 ≤ c2 → Calls Tryd.prog 30 #[.slice A2 2 c2] W (RdNone W)) :
    Calls Tryd.prog 11 #[.string s] w (RdOf (evZ, 90) w) := by
  subst hx
  have hB0 := (Below.refl w.heap.size w).alloc (Nat.le_refl _) (.cells (evCells evZ none 0) 24)
  have HE0 := Km (alloc_ev (w := w) rfl evZ none 0)
  have HS := Lib.hid (hsp _ (hE.step hB0))
  have HB0 := Km hB0
  have HE := Km hE
  have HX := Km hx0
  have HM := Km hm
  clear hsp hB0 hE hx0 hm
  have i1 : (0 : Int) < ((m + 1 : Nat) : Int) := by omega
  subst hm3
  clear hmb
  have HX3 := Km hx3
  have HRD := Lib.hid hrd
  clear hx3 hrd
  go_enter Tryd.func11, Tryd.ntmps11
  go_wp2_with (go_at_call 28; refine HS.out.mono ?_; rintro x w1 ⟨g, c, rfl, hg, hc, hC, hb1⟩; refine Hid.out ?_)
  refine Lib.hid ?_
  have hB1 := HB0.out.trans (hb1.mono HB0.out.size)
  obtain ⟨ad, e, hc0⟩ := Kd.at_string hC 0 (by omega) i1
  cases e
  replace hc0 : w1.cell? ⟨g, 0, none⟩ = some (.string ⟨#[101, 110, 100]⟩) := hc0.trans (by rw [HX.out]; rfl)
  have hgl := World.block_lt_of_cell? w1 _ hc0
  have HGL := Km hgl
  have HC0 := Km hc0
  have HR1 := Km (ev_below HE0.out hb1)
  have HHC := Km hc
  have HHG := Km hg
  have HCw := Km hC
  have HRw := Km HR1.out
  have HBw := Km hB1
  have HC1 := Km (Kd.C_alloc hC (.cells (evCells evZ none 0) 24))
  have HB2 := Km (below_alloc hB1 (.cells (evCells evZ none 0) 24))
  have HR2 := Km (ev_below HR1.out (ba (o := .cells (evCells evZ none 0) 24)))
  have HE2 := Km (alloc_ev (w := w1) rfl evZ none 0)
  clear hB1 hb1 hC HB0 HE0 hg HR1 hc
  obtain ⟨_, e, h3⟩ := Kd.at_string HCw.out 3 (by omega) (by omega)
  cases e
  have HX3C := Km (show w1.cell? ⟨g, 3, none⟩ = some (.string x3) from h3.trans (by rw [HX3.out]; rfl))
  have i3 : (3 : Int) < ((3 + 1 : Nat) : Int) := by omega
  have i5 : ¬ c = 1 := by have := HHC.out; omega
  have HI5 := Km i5
  have HCT := Km (show ∀ W, Below w1.heap.size w1 W → Kd.C Kd.string W (some ⟨g, 1, none⟩) 2 ((l.take 3).drop 1) from fun W hb => by
    have h0 := Kd.C_take (m := 3) (k := Kd.string) (by rw [HM.out]; exact HCw.out) (by rw [HM.out]; omega)
    have h := Kd.C_drop (m := 1) (c := c) h0 (by rw [List.length_take, HM.out]; omega) (by rw [List.length_take, HM.out]; have := HHC.out; omega)
    rw [if_neg HI5.out, List.length_drop, List.length_take, HM.out] at h
    exact Kd.C_below h hb)
  clear h3 i5
  go_wp2_with (fail)
  go_loopw [6] (fun nv wr => ∃ (j : Nat) (d : Int), j ≤ 4 ∧ nv = .int .i64 (3 + (j : Int)) ∧ Aside0 (d = stAt j x3) ∧ Aside0 (IsEv wr w1.heap.size ⟨0, 0, 0, d, 0, []⟩ none 0) ∧ Aside0 (Below w1.heap.size w1 wr)) (fun nv _ => 7 - (intOf nv).toNat)
  case atStart => exact ⟨0, 0, by omega, rfl, ⟨rfl⟩, ⟨HE2.out⟩, ⟨(Below.refl w1.heap.size w1).alloc (Nat.le_refl _) _⟩⟩
  case round =>
    obtain ⟨j, d, hj, rfl, hD, hI, hq⟩ := hrel
    have hx3c : wr.cell? ⟨g, 3, none⟩ = some (.string x3) := (hq.out.cell (p := ⟨g, 3, none⟩) HGL.out).trans HX3C.out
    have hgr : g < wr.heap.size := Nat.lt_of_lt_of_le HGL.out hq.out.size
    clear hc0 hgl
    by_cases hjl : j < 4
    · have hjB : decide (3 + (j : Int) ≤ 6) = true := decide_eq_true (by omega)
      have HST := Lib.hid (fun W => rst_any (3 + (j : Int)) W)
      have hw : wrap64 (3 + (j : Int) + 1) = 3 + ((j + 1 : Nat) : Int) := by unfold wrap64; omega
      have hw2 : wrap64 (3 + (j : Int) + 1) = 3 + ((j : Int) + 1) := by unfold wrap64; omega
      have hleB : w1.heap.size ≤ wr.heap.size := hq.out.size
      by_cases hst : stateL (3 + (j : Int)) = x3.data.toList
      · have HST2 := Km (show stAt (j + 1) x3 = 3 + (j : Int) from if_pos hst)
        have hbe : ((ofL (stateL (3 + (j : Int)))).toList == x3.toList) = true := by rw [beq_iff_eq, toList_data, toList_data, data_ofL]; exact hst
        clear hst
        go_wp2_with (fail)
        go_region_held3 (fun w' => w'.cell? ⟨g, 3, none⟩ = some (.string x3))
          (first | ((with_reducible refine (hbI.cell (p := ⟨g, 3, none⟩) ?_).trans ?_) <;> first | (with_reducible assumption) | (exact World.block_lt_of_cell? _ _ (by with_reducible assumption))) | go_keep)
          (first | (go_at_call 29; refine (HST.out _).mono ?_; rintro e4 w4 ⟨rfl, hD4⟩; have hbI := rdrawn_below hD4; have hb4 : Below wr.heap.size wr w4 := below_step (by with_reducible repeat (first | exact Below.refl _ _ | assumption | refine below_alloc ?_ _ | refine below_drew ?_ | refine pw_below_drewN ?_ _)) hbI))
        have HI4 := Km (ev_below hI.out hb4)
        have HQ4 := Km (hq.out.trans (hb4.mono hleB))
        obtain ⟨o0, o1, o2, o3, o4, o5, of_⟩ := ev_cells HI4.out
        dsimp only at o0 o1 o2 o3 o4 o5
        clear hb4 hbI
        go_wp2
        go_roundw
        case rel => exact ⟨j + 1, 3 + (j : Int), by omega, by go_num, ⟨HST2.out.symm⟩, ⟨ev_put (e' := ⟨0, 0, 0, 3 + (j : Int), 0, []⟩) (A' := none) (c' := 0) HI4.out 3 (.int .i64 (3 + (j : Int))) rfl⟩, ⟨HQ4.out.setCell (p := ⟨w1.heap.size, 3, none⟩) (Nat.le_refl _) _⟩⟩
        case measure => simp [intOf]; omega
      · have HST2 := Km (show stAt (j + 1) x3 = d from (if_neg hst).trans hD.out.symm)
        have hbe : ((ofL (stateL (3 + (j : Int)))).toList == x3.toList) = false := by rw [beq_eq_false_iff_ne, toList_data, toList_data, data_ofL]; exact hst
        clear hst
        go_wp2_with (fail)
        go_region_held3 (fun w' => w'.cell? ⟨g, 3, none⟩ = some (.string x3))
          (first | ((with_reducible refine (hbI.cell (p := ⟨g, 3, none⟩) ?_).trans ?_) <;> first | (with_reducible assumption) | (exact World.block_lt_of_cell? _ _ (by with_reducible assumption))) | go_keep)
          (first | (go_at_call 29; refine (HST.out _).mono ?_; rintro e4 w4 ⟨rfl, hD4⟩; have hbI := rdrawn_below hD4; have hb4 : Below wr.heap.size wr w4 := below_step (by with_reducible repeat (first | exact Below.refl _ _ | assumption | refine below_alloc ?_ _ | refine below_drew ?_ | refine pw_below_drewN ?_ _)) hbI))
        have HI4 := Km (ev_below hI.out hb4)
        have HQ4 := Km (hq.out.trans (hb4.mono hleB))
        clear hb4 hbI
        go_wp2
        go_roundw
        case rel => exact ⟨j + 1, d, by omega, by go_num, ⟨HST2.out.symm⟩, ⟨HI4.out⟩, ⟨HQ4.out⟩⟩
        case measure => simp [intOf]; omega
    · have hjB : decide (3 + (j : Int) ≤ 6) = false := decide_eq_false (by omega)
      have HDD := Km (show d = stateR x3.data.toList from hD.out.trans (by
        have : j = 4 := by omega
        subst this
        rfl))
      have HIw := Km (ev_put (e' := ⟨3, 0, 0, d, 0, []⟩) (A' := none) (c' := 0) hI.out 0 (.int .i64 3) rfl)
      have HQw := Km (hq.out.setCell (p := ⟨w1.heap.size, 0, none⟩) (Nat.le_refl _) (.int .i64 3))
      have hlt : w.heap.size < w1.heap.size := hltL HHG.out HGL.out
      have hle : w.heap.size ≤ w1.heap.size := Nat.le_of_lt hlt
      have HRw2 := Km (show IsEv _ w.heap.size evZ none 0 from (HQw.out.block _ hlt).trans HRw.out)
      have HBw2 := Km (HBw.out.trans (HQw.out.mono hle))
      obtain ⟨o0, o1, o2, o3, o4, o5, of_⟩ := ev_cells hI.out
      dsimp only at o0 o1 o2 o3 o4 o5
      have i4 : (3 : Int) ≤ (c : Int) := by have := HHC.out; omega
      have i6 : ¬ c = 1 := HI5.out
      clear hjl hj
      go_wp2_with (go_at_call 30; refine (HRD.out _ _ _ (HCT.out _ HQw.out) (by have := HHC.out; omega)).mono ?_; rintro x w2 ⟨v3, rfl, hb2⟩; refine Hid.out ?_)
      refine Lib.hid ?_
      have HR3 := Km (ev_below HRw2.out hb2)
      have HB3 := Km (HBw2.out.trans (hb2.mono HBw2.out.size))
      clear o0 o1 o2 o3 o4 o5 of_ hx3c
      obtain ⟨r0, r1, r2, r3, r4, r5, rf⟩ := ev_cells HR3.out
      clear hb2 i4 i6
      go_wp2
      refine rd_close (code := 90) rfl rfl (put6_ev HR3.out evZ none 0) ?_
      exact rdBad HB3.out

theorem rr_Ef (s : ByteArray) (l : List ByteArray) (m : Nat) (x0 : ByteArray) (hx0 : x0 = l.getD 0 ByteArray.empty) (hm : l.length = m + 1) (hmb : m ≤ 2147483649) (hx : x0 = ⟨#[101, 110, 100]⟩) (w : World) (hE : Env w)
    (hsp : ∀ W, Env W → Calls Tryd.prog 28 #[.string s, .int .u8 32] W (CutPost l m W)) (hm3 : m = 3) (x3 : ByteArray) (hx3 : x3 = l.getD 3 ByteArray.empty) (n : List Int) (hf : ((n.length : Int) == 2) = true) (hk : 2 ≤ n.length) (hnr : ∀ x ∈ n, Rng x) (hrd : ∀ W A2 c2, Kd.C Kd.string W A2 2 ((l.take 3).drop 1) → 2 ≤ c2 → Calls Tryd.prog 30 #[.slice A2 2 c2] W (RdSome n W)) (r : Ev × Int) (ev : Ev) (hev : ev = ⟨3, n.getD 0 0, n.getD 1 0, stateR x3.data.toList, 0, []⟩) (hr : r = if okP ev ∧ evT ev = s.data.toList then (ev, 0) else (evZ, 90)) :
    Calls Tryd.prog 11 #[.string s] w (RdOf r w) := by
  subst hx
  have hB0 := (Below.refl w.heap.size w).alloc (Nat.le_refl _) (.cells (evCells evZ none 0) 24)
  have HE0 := Km (alloc_ev (w := w) rfl evZ none 0)
  have HS := Lib.hid (hsp _ (hE.step hB0))
  have HB0 := Km hB0
  have HE := Km hE
  have HX := Km hx0
  have HM := Km hm
  clear hsp hB0 hE hx0 hm
  have i1 : (0 : Int) < ((m + 1 : Nat) : Int) := by omega
  subst hm3
  clear hmb
  have HX3 := Km hx3
  have HRD := Lib.hid hrd
  clear hx3 hrd
  have k0 : (0 : Int) < (n.length : Int) := by omega
  obtain ⟨v0, hv0_⟩ : ∃ v, v = n.getD 0 0 := ⟨_, rfl⟩
  have k1 : (1 : Int) < (n.length : Int) := by omega
  obtain ⟨v1, hv1_⟩ : ∃ v, v = n.getD 1 0 := ⟨_, rfl⟩
  have HVR := Km (show Rng v0 ∧ Rng v1 ∧ True from ⟨(by rw [hv0_]; exact getD_rng hnr 0), (by rw [hv1_]; exact getD_rng hnr 1), trivial⟩)
  obtain ⟨d0, hd0⟩ : ∃ d, d = stateR x3.data.toList := ⟨_, rfl⟩
  have HDR := Km (show Rng d0 by rw [hd0]; exact stateR_rng _)
  replace hev : ev = ⟨3, v0, v1, d0, 0, []⟩ := by rw [hev, hv0_, hv1_, hd0]
  have HV := Km (show v0 = n.getD 0 0 ∧ v1 = n.getD 1 0 ∧ True from ⟨hv0_, hv1_, trivial⟩)
  have HEV := Km hev
  have HRR := Km hr
  have HD0 := Km hd0
  clear hk hnr hev hr hd0 hv0_ hv1_
  go_enter Tryd.func11, Tryd.ntmps11
  go_wp2_with (go_at_call 28; refine HS.out.mono ?_; rintro x w1 ⟨g, c, rfl, hg, hc, hC, hb1⟩; refine Hid.out ?_)
  refine Lib.hid ?_
  have hB1 := HB0.out.trans (hb1.mono HB0.out.size)
  obtain ⟨ad, e, hc0⟩ := Kd.at_string hC 0 (by omega) i1
  cases e
  replace hc0 : w1.cell? ⟨g, 0, none⟩ = some (.string ⟨#[101, 110, 100]⟩) := hc0.trans (by rw [HX.out]; rfl)
  have hgl := World.block_lt_of_cell? w1 _ hc0
  have HGL := Km hgl
  have HC0 := Km hc0
  have HR1 := Km (ev_below HE0.out hb1)
  have HHC := Km hc
  have HHG := Km hg
  have HCw := Km hC
  have HRw := Km HR1.out
  have HBw := Km hB1
  have HC1 := Km (Kd.C_alloc hC (.cells (evCells evZ none 0) 24))
  have HB2 := Km (below_alloc hB1 (.cells (evCells evZ none 0) 24))
  have HR2 := Km (ev_below HR1.out (ba (o := .cells (evCells evZ none 0) 24)))
  have HE2 := Km (alloc_ev (w := w1) rfl evZ none 0)
  clear hB1 hb1 hC HB0 HE0 hg HR1 hc
  obtain ⟨_, e, h3⟩ := Kd.at_string HCw.out 3 (by omega) (by omega)
  cases e
  have HX3C := Km (show w1.cell? ⟨g, 3, none⟩ = some (.string x3) from h3.trans (by rw [HX3.out]; rfl))
  have i3 : (3 : Int) < ((3 + 1 : Nat) : Int) := by omega
  have i5 : ¬ c = 1 := by have := HHC.out; omega
  have HI5 := Km i5
  have HCT := Km (show ∀ W, Below w1.heap.size w1 W → Kd.C Kd.string W (some ⟨g, 1, none⟩) 2 ((l.take 3).drop 1) from fun W hb => by
    have h0 := Kd.C_take (m := 3) (k := Kd.string) (by rw [HM.out]; exact HCw.out) (by rw [HM.out]; omega)
    have h := Kd.C_drop (m := 1) (c := c) h0 (by rw [List.length_take, HM.out]; omega) (by rw [List.length_take, HM.out]; have := HHC.out; omega)
    rw [if_neg HI5.out, List.length_drop, List.length_take, HM.out] at h
    exact Kd.C_below h hb)
  clear h3 i5
  go_wp2_with (fail)
  go_loopw [6] (fun nv wr => ∃ (j : Nat) (d : Int), j ≤ 4 ∧ nv = .int .i64 (3 + (j : Int)) ∧ Aside0 (d = stAt j x3) ∧ Aside0 (IsEv wr w1.heap.size ⟨0, 0, 0, d, 0, []⟩ none 0) ∧ Aside0 (Below w1.heap.size w1 wr)) (fun nv _ => 7 - (intOf nv).toNat)
  case atStart => exact ⟨0, 0, by omega, rfl, ⟨rfl⟩, ⟨HE2.out⟩, ⟨(Below.refl w1.heap.size w1).alloc (Nat.le_refl _) _⟩⟩
  case round =>
    obtain ⟨j, d, hj, rfl, hD, hI, hq⟩ := hrel
    have hx3c : wr.cell? ⟨g, 3, none⟩ = some (.string x3) := (hq.out.cell (p := ⟨g, 3, none⟩) HGL.out).trans HX3C.out
    have hgr : g < wr.heap.size := Nat.lt_of_lt_of_le HGL.out hq.out.size
    clear hc0 hgl
    by_cases hjl : j < 4
    · have hjB : decide (3 + (j : Int) ≤ 6) = true := decide_eq_true (by omega)
      have HST := Lib.hid (fun W => rst_any (3 + (j : Int)) W)
      have hw : wrap64 (3 + (j : Int) + 1) = 3 + ((j + 1 : Nat) : Int) := by unfold wrap64; omega
      have hw2 : wrap64 (3 + (j : Int) + 1) = 3 + ((j : Int) + 1) := by unfold wrap64; omega
      have hleB : w1.heap.size ≤ wr.heap.size := hq.out.size
      by_cases hst : stateL (3 + (j : Int)) = x3.data.toList
      · have HST2 := Km (show stAt (j + 1) x3 = 3 + (j : Int) from if_pos hst)
        have hbe : ((ofL (stateL (3 + (j : Int)))).toList == x3.toList) = true := by rw [beq_iff_eq, toList_data, toList_data, data_ofL]; exact hst
        clear hst
        go_wp2_with (fail)
        go_region_held3 (fun w' => w'.cell? ⟨g, 3, none⟩ = some (.string x3))
          (first | ((with_reducible refine (hbI.cell (p := ⟨g, 3, none⟩) ?_).trans ?_) <;> first | (with_reducible assumption) | (exact World.block_lt_of_cell? _ _ (by with_reducible assumption))) | go_keep)
          (first | (go_at_call 29; refine (HST.out _).mono ?_; rintro e4 w4 ⟨rfl, hD4⟩; have hbI := rdrawn_below hD4; have hb4 : Below wr.heap.size wr w4 := below_step (by with_reducible repeat (first | exact Below.refl _ _ | assumption | refine below_alloc ?_ _ | refine below_drew ?_ | refine pw_below_drewN ?_ _)) hbI))
        have HI4 := Km (ev_below hI.out hb4)
        have HQ4 := Km (hq.out.trans (hb4.mono hleB))
        obtain ⟨o0, o1, o2, o3, o4, o5, of_⟩ := ev_cells HI4.out
        dsimp only at o0 o1 o2 o3 o4 o5
        clear hb4 hbI
        go_wp2
        go_roundw
        case rel => exact ⟨j + 1, 3 + (j : Int), by omega, by go_num, ⟨HST2.out.symm⟩, ⟨ev_put (e' := ⟨0, 0, 0, 3 + (j : Int), 0, []⟩) (A' := none) (c' := 0) HI4.out 3 (.int .i64 (3 + (j : Int))) rfl⟩, ⟨HQ4.out.setCell (p := ⟨w1.heap.size, 3, none⟩) (Nat.le_refl _) _⟩⟩
        case measure => simp [intOf]; omega
      · have HST2 := Km (show stAt (j + 1) x3 = d from (if_neg hst).trans hD.out.symm)
        have hbe : ((ofL (stateL (3 + (j : Int)))).toList == x3.toList) = false := by rw [beq_eq_false_iff_ne, toList_data, toList_data, data_ofL]; exact hst
        clear hst
        go_wp2_with (fail)
        go_region_held3 (fun w' => w'.cell? ⟨g, 3, none⟩ = some (.string x3))
          (first | ((with_reducible refine (hbI.cell (p := ⟨g, 3, none⟩) ?_).trans ?_) <;> first | (with_reducible assumption) | (exact World.block_lt_of_cell? _ _ (by with_reducible assumption))) | go_keep)
          (first | (go_at_call 29; refine (HST.out _).mono ?_; rintro e4 w4 ⟨rfl, hD4⟩; have hbI := rdrawn_below hD4; have hb4 : Below wr.heap.size wr w4 := below_step (by with_reducible repeat (first | exact Below.refl _ _ | assumption | refine below_alloc ?_ _ | refine below_drew ?_ | refine pw_below_drewN ?_ _)) hbI))
        have HI4 := Km (ev_below hI.out hb4)
        have HQ4 := Km (hq.out.trans (hb4.mono hleB))
        clear hb4 hbI
        go_wp2
        go_roundw
        case rel => exact ⟨j + 1, d, by omega, by go_num, ⟨HST2.out.symm⟩, ⟨HI4.out⟩, ⟨HQ4.out⟩⟩
        case measure => simp [intOf]; omega
    · have hjB : decide (3 + (j : Int) ≤ 6) = false := decide_eq_false (by omega)
      have HDD := Km (show d = stateR x3.data.toList from hD.out.trans (by
        have : j = 4 := by omega
        subst this
        rfl))
      have HIw := Km (ev_put (e' := ⟨3, 0, 0, d, 0, []⟩) (A' := none) (c' := 0) hI.out 0 (.int .i64 3) rfl)
      have HQw := Km (hq.out.setCell (p := ⟨w1.heap.size, 0, none⟩) (Nat.le_refl _) (.int .i64 3))
      have hlt : w.heap.size < w1.heap.size := hltL HHG.out HGL.out
      have hle : w.heap.size ≤ w1.heap.size := Nat.le_of_lt hlt
      have HRw2 := Km (show IsEv _ w.heap.size evZ none 0 from (HQw.out.block _ hlt).trans HRw.out)
      have HBw2 := Km (HBw.out.trans (HQw.out.mono hle))
      obtain ⟨o0, o1, o2, o3, o4, o5, of_⟩ := ev_cells hI.out
      dsimp only at o0 o1 o2 o3 o4 o5
      have i4 : (3 : Int) ≤ (c : Int) := by have := HHC.out; omega
      have i6 : ¬ c = 1 := HI5.out
      have hdd : d = d0 := HDD.out.trans HD0.out.symm
      subst hdd
      clear hjl hj
      go_wp2_with (go_at_call 30; refine (HRD.out _ _ _ (HCT.out _ HQw.out) (by have := HHC.out; omega)).mono ?_; rintro x w2 ⟨A3, c3, rfl, hc3, hC3, hA3, hb2⟩; refine Hid.out ?_)
      refine Lib.hid ?_
      have HR3 := Km (ev_below HRw2.out hb2)
      have HE3 := Km (ev_below HIw.out hb2)
      have HB3 := Km (HBw2.out.trans (hb2.mono HBw2.out.size))
      have hx2 : w2.cell? ⟨g, 0, none⟩ = some (.string ⟨#[101, 110, 100]⟩) := ((HQw.out.trans (hb2.mono HQw.out.size)).cell (p := ⟨g, 0, none⟩) HGL.out).trans HC0.out
      clear o0 o1 o2 o3 o4 o5 of_ hx3c
      obtain ⟨o0, o1, o2, o3, o4, o5, of_⟩ := ev_cells HE3.out
      dsimp only at o0 o1 o2 o3 o4 o5
      obtain ⟨a3, rfl, m0⟩ := Kd.at_int hC3 0 (by omega) k0
      obtain ⟨_, e1, m1⟩ := Kd.at_int hC3 1 (by omega) k1
      cases e1
      replace m0 : w2.cell? a3 = some (.int .i64 v0) := Eq.trans m0 (by rw [HV.out.1]; rfl)
      replace m1 : w2.cell? ⟨a3.block, a3.off + 1, none⟩ = some (.int .i64 v1) := Eq.trans m1 (by rw [HV.out.2.1]; rfl)
      have n1 : a3.block ≠ w1.heap.size := by have h1 := hA3 a3 rfl (by omega); have h2 := blk_lt HIw.out; omega
      have n2 : w1.heap.size ≠ a3.block := fun h => n1 h.symm
      clear hb2 hc3 hC3 hA3 i6 i4
      go_wp2_with (fail)
      go_region
      go_wp2_with (go_at_call 8; refine Hid.out ?_)
      refine Lib.hid ?_
      refine calls_gen ?_
      intro W hW
      have HE4 := Km (show IsEv W w1.heap.size ⟨3, v0, v1, d, 0, []⟩ none 0 by rw [hW]; exact (ev_below (ev_put (e' := ⟨3, v0, v1, d, 0, []⟩) (A' := none) (c' := 0) (ev_put (e' := ⟨3, v0, 0, d, 0, []⟩) (A' := none) (c' := 0) HE3.out 1 (.int .i64 v0) rfl) 2 (.int .i64 v1) rfl) (below_drew (Below.refl _ _))))
      have HB4 := Km (show Below w.heap.size w W by rw [hW]; exact (below_drew ((HB3.out.setCell (p := ⟨w1.heap.size, 1, none⟩) hle _).setCell (p := ⟨w1.heap.size, 2, none⟩) hle _)))
      have hBb : Below w1.heap.size w2 W := by rw [hW]; exact (below_drew (((Below.refl w1.heap.size w2).setCell (p := ⟨w1.heap.size, 1, none⟩) (Nat.le_refl _) _).setCell (p := ⟨w1.heap.size, 2, none⟩) (Nat.le_refl _) _))
      have HR4 := Km (show IsEv W w.heap.size evZ none 0 from (hBb.block _ hlt).trans HR3.out)
      have hea := revent_any ⟨3, v0, v1, d, 0, []⟩ none 0 W (HE.out.step HB4.out) (by obtain ⟨q0, q1, _⟩ := HVR.out; exact ⟨q0, q1, HDR.out, rng0, fun _ h => by cases h⟩) (Kd.C_nil _ _) (Nat.le_refl _) (Nat.zero_le _)
      rw [show evA ⟨3, v0, v1, d, 0, []⟩ = evA ev from by rw [HEV.out]] at hea
      have HEA := Lib.hid hea
      clear hW hBb hea o0 o1 o2 o3 o4 o5 of_ m0 m1 hx2
      refine Calls.mono HEA.out ?_
      rintro x w4 ⟨rfl, hb4⟩
      have HR5 := Km (ev_below HR4.out hb4)
      have HE5 := Km (ev_below HE4.out hb4)
      have HB5 := Km (HB4.out.trans (hb4.mono HB4.out.size))
      clear hb4
      obtain ⟨r0, r1, r2, r3, r4, r5, rf⟩ := ev_cells HR5.out
      obtain ⟨o0, o1, o2, o3, o4, o5, of_⟩ := ev_cells HE5.out
      (try dsimp only at o0 o1 o2 o3 o4 o5)
      by_cases hok : okP ev
      · have hA : evA ev = (evT ev, 0) := if_pos hok
        rw [hA]
        by_cases heq : evT ev = s.data.toList
        · have hbe : ((ofL (evT ev)).toList == s.toList) = true := beqT heq
          have HRT := Km (HRR.out.trans (if_pos ⟨hok, heq⟩))
          clear hok hA heq
          go_wp2
          refine rd_close (b := w.heap.size) (e := ⟨3, v0, v1, d, 0, []⟩) (A := none) (c := 0) (code := 0) rfl rfl (put6_ev HR5.out ⟨3, v0, v1, d, 0, []⟩ none 0) ?_
          rw [HRT.out, HEV.out]
          have hBf := put6_below HB5.out (Nat.le_refl _) ⟨3, v0, v1, d, 0, []⟩ none 0
          exact ⟨none, 0, rfl, (Nat.le_refl _), Kd.C_nil _ _, hBf⟩
        · have hbe : ((ofL (evT ev)).toList == s.toList) = false := beqF heq
          have HRT := Km (HRR.out.trans (if_neg (fun h => heq h.2)))
          clear hok hA heq
          go_wp2
          refine rd_close (code := 90) rfl rfl (put6_ev HR5.out evZ none 0) ?_
          rw [HRT.out]
          exact rdBad HB5.out
      · have hA : evA ev = ([], 90) := if_neg hok
        rw [hA]
        have HRT := Km (HRR.out.trans (if_neg (fun h => hok h.1)))
        clear hok hA
        go_wp2
        refine rd_close (code := 90) rfl rfl (put6_ev HR5.out evZ none 0) ?_
        rw [HRT.out]
        exact rdBad HB5.out

theorem numsP_len : ∀ (l : List (List UInt8)) (r : List Int), numsP l = some r → r.length = l.length
  | [], r, h => by
    simp [numsP] at h
    subst h
    rfl
  | x :: l, r, h => by
    unfold numsP at h
    split at h
    · cases h
    · rename_i v hv
      cases hr : numsP l with
      | none => simp [hr] at h
      | some r2 =>
        have := numsP_len l r2 hr
        simp [hr] at h
        subst h
        simp [this]
theorem rread_some (T : List ByteArray) (hT : T.length < 4398046511104) (n : List Int) (hn : numsP (dat T) = some n) (A2 : Option Addr) (c2 : Nat) (W : World) (h : Kd.C Kd.string W A2 T.length T) (hc : T.length ≤ c2) : Calls Tryd.prog 30 #[.slice A2 T.length c2] W (RdSome n W) := by
  have hf := read_f T hT
  rw [hn] at hf
  refine (backfillref09_read.calls _ A2 c2 T _ _ W h hc hf).mono ?_
  rintro x w' ⟨v, rfl, hR, hb⟩
  obtain ⟨A3, c3, rfl⟩ := Kd.R_slice hR
  refine ⟨A3, c3, rfl, (Kd.R_reads' hR).2.1, (Kd.R_reads' hR).2.2, fun ad had hpos => ?_, hb⟩
  obtain ⟨g3, cap3, h3, hg3, _⟩ := Kd.R_form hR hpos
  injection h3 with h3 _ _
  rw [had] at h3
  injection h3 with h3
  rw [h3]
  exact hg3
theorem rread_none (T : List ByteArray) (hT : T.length < 4398046511104) (hn : numsP (dat T) = none) (A2 : Option Addr) (c2 : Nat) (W : World) (h : Kd.C Kd.string W A2 T.length T) (hc : T.length ≤ c2) : Calls Tryd.prog 30 #[.slice A2 T.length c2] W (RdNone W) := by
  have hf := read_f T hT
  rw [hn] at hf
  refine (backfillref09_read.calls _ A2 c2 T _ _ W h hc hf).mono ?_
  rintro x w' ⟨v, rfl, hR, hb⟩
  exact ⟨v, rfl, hb⟩
def restR (s : List UInt8) (ws : List (List UInt8)) (n : List Int) : Ev × Int := match evR ws n with
  | none => (evZ, 90)
  | some e => if okP e ∧ evT e = s then (e, 0) else (evZ, 90)
theorem rdR_some (s : List UInt8) (n : List Int) (h : numsP (headsR (splA [] s)).tail = some n) : rdR s = restR s (splA [] s) n := by
  unfold rdR restR
  rw [h]
  rfl
theorem rdR_none (s : List UInt8) (h : numsP (headsR (splA [] s)).tail = none) : rdR s = (evZ, 90) := by
  unfold rdR
  rw [h]

theorem rreadEvent_any (s : ByteArray) (hs : s.size ≤ 2147483648) (w : World) (hE : Env w) : Calls Tryd.prog 11 #[.string s] w (RdOf (rdR s.data.toList) w) := by
  obtain ⟨l, hl⟩ : ∃ l, l = (splA [] s.data.toList).map ofL := ⟨_, rfl⟩
  have hds : dat l = splA [] s.data.toList := by rw [hl, dat_ofL]
  have hne : l ≠ [] := by
    rw [hl]
    intro h
    exact splA_ne s.data.toList [] (List.map_eq_nil_iff.1 h)
  obtain ⟨m, hm⟩ : ∃ m, l.length = m + 1 := ⟨l.length - 1, by have := List.length_pos_iff.2 hne; omega⟩
  have hsp := fun W (_ : Env W) => cut_any s hs l m hl hm W
  have hnum := splA_num s.data.toList []
  rw [← hds, data_length] at hnum
  have hmb : m ≤ 2147483649 := by simp [dat] at hnum; omega
  have hld : (dat l).length = m + 1 := by simp [dat, hm]
  obtain ⟨x0, hx0⟩ : ∃ x, x = l.getD 0 ByteArray.empty := ⟨_, rfl⟩
  have h0 : (dat l).getD 0 [] = x0.data.toList := by
    rw [hx0, List.getD_eq_getElem?_getD, List.getD_eq_getElem?_getD, dat, List.getElem?_map, List.getElem?_eq_getElem (by omega : 0 < l.length)]
    rfl
  have h3 : ∀ h : 3 < l.length, (dat l).getD 3 [] = (l.getD 3 ByteArray.empty).data.toList := by
    intro h
    rw [List.getD_eq_getElem?_getD, List.getD_eq_getElem?_getD, dat, List.getElem?_map, List.getElem?_eq_getElem h]
    rfl
  by_cases he : endR (dat l)
  · have hx : x0 = ⟨#[101, 110, 100]⟩ := by rw [← ofL_data x0, ← h0, he.1]; rfl
    have hm3 : m = 3 := by have := he.2; omega
    have hT : (dat ((l.take 3).drop 1)) = (headsR (splA [] s.data.toList)).tail := by
      unfold headsR
      rw [← hds, if_pos he]
      simp [dat, List.map_take]
    have hTl : ((l.take 3).drop 1).length = 2 := by rw [List.length_drop, List.length_take]; omega
    cases hn : numsP (headsR (splA [] s.data.toList)).tail with
    | none =>
      rw [rdR_none _ hn]
      rw [← hT] at hn
      refine rr_En s l m x0 hx0 hm hmb hx w hE hsp hm3 (l.getD 3 ByteArray.empty) rfl (fun W A2 c2 hC hc => ?_)
      have := rread_none _ (by omega) hn A2 c2 W (by rw [hTl]; exact hC) (by omega)
      rw [hTl] at this
      exact this
    | some n =>
      rw [rdR_some _ n hn]
      have hnl : n.length = 2 := by have h1 := numsP_len _ _ hn; rw [← hT] at h1; simp [dat] at h1; omega
      have hnr := numsP_rng _ _ hn
      rw [← hT] at hn
      refine rr_Ef s l m x0 hx0 hm hmb hx w hE hsp hm3 (l.getD 3 ByteArray.empty) rfl n (by rw [hnl]; rfl) (by omega) hnr (fun W A2 c2 hC hc => ?_) _ _ rfl ?_
      · have := rread_some _ (by omega) n hn A2 c2 W (by rw [hTl]; exact hC) (by omega)
        rw [hTl] at this
        exact this
      · unfold restR
        have h1 : evR (dat l) n = some ⟨3, n.getD 0 0, n.getD 1 0, stateR (l.getD 3 ByteArray.empty).data.toList, 0, []⟩ := by
          unfold evR
          rw [if_neg (fun h => absurd (he.1.symm.trans h.1) (by decide)), if_neg (fun h => absurd (he.1.symm.trans h.1) (by decide)), if_pos ⟨he, hnl⟩, h3 (by omega)]
        rw [← hds, h1]
  · have hT : (dat (l.drop 1)) = (headsR (splA [] s.data.toList)).tail := by
      unfold headsR
      rw [← hds, if_neg he]
      simp [dat]
    have hTl : (l.drop 1).length = m := by rw [List.length_drop]; omega
    cases hn : numsP (headsR (splA [] s.data.toList)).tail with
    | none =>
      rw [rdR_none _ hn]
      rw [← hT] at hn
      have hrd : ∀ W A2 c2, Kd.C Kd.string W A2 m (l.drop 1) → m ≤ c2 → Calls Tryd.prog 30 #[.slice A2 m c2] W (RdNone W) := by
        intro W A2 c2 hC hc
        have := rread_none _ (by omega) hn A2 c2 W (by rw [hTl]; exact hC) (by omega)
        rw [hTl] at this
        exact this
      have hm1 : 1 ≤ m := by
        rcases Nat.eq_zero_or_pos m with h | h
        · rw [List.eq_nil_of_length_eq_zero (show (l.drop 1).length = 0 by omega)] at hn
          cases hn
        · exact h
      by_cases g3 : x0 = ⟨#[101, 110, 100]⟩
      · exact rr_n3 s l m x0 hx0 hm hmb g3 w hE hsp hm1 (fun h => he ⟨by rw [h0, g3]; rfl, by omega⟩) hrd
      exact rr_n0 s l m x0 hx0 hm hmb g3 w hE hsp hm1 hrd
    | some n =>
      rw [rdR_some _ n hn]
      have hnl : n.length = m := by have h1 := numsP_len _ _ hn; rw [← hT] at h1; simp [dat] at h1; omega
      have hnr := numsP_rng _ _ hn
      rw [← hT] at hn
      have hrd : ∀ W A2 c2, Kd.C Kd.string W A2 m (l.drop 1) → m ≤ c2 → Calls Tryd.prog 30 #[.slice A2 m c2] W (RdSome n W) := by
        intro W A2 c2 hC hc
        have := rread_some _ (by omega) n hn A2 c2 W (by rw [hTl]; exact hC) (by omega)
        rw [hTl] at this
        exact this
      rw [← hds]
      by_cases g1 : x0 = ⟨#[115, 117, 98, 109, 105, 116]⟩
      · replace h0 : (dat l).getD 0 [] = wSubmit := by rw [h0, g1]; rfl
        by_cases hf : n.length = 4
        · have h1 : evR (dat l) n = some ⟨1, n.getD 0 0, n.getD 1 0, n.getD 2 0, n.getD 3 0, []⟩ := by
            unfold evR
            rw [if_pos ⟨h0, hf⟩]
          have h2 : restR s.data.toList (dat l) n = if okP ⟨1, n.getD 0 0, n.getD 1 0, n.getD 2 0, n.getD 3 0, []⟩ ∧ evT ⟨1, n.getD 0 0, n.getD 1 0, n.getD 2 0, n.getD 3 0, []⟩ = s.data.toList then (⟨1, n.getD 0 0, n.getD 1 0, n.getD 2 0, n.getD 3 0, []⟩, 0) else (evZ, 90) := by
            unfold restR
            rw [h1]
          exact rr_f1 s l m x0 hx0 hm hmb g1 w hE hsp (by omega) n (by rw [hf]; rfl) (by omega) (by omega) hnr hrd _ _ rfl h2
        · have h1 : restR s.data.toList (dat l) n = (evZ, 90) := by
            unfold restR
            have : evR (dat l) n = none := by
              unfold evR
              rw [if_neg (fun h => hf h.2), if_neg (fun h => absurd (h0.symm.trans h.1) (by decide)), if_neg (fun h => absurd (h0.symm.trans h.1.1) (by decide)), if_neg (fun h => absurd (h0.symm.trans h.1) (by decide)), if_neg (fun h => absurd (h0.symm.trans h.1) (by decide)), if_neg (fun h => absurd (h0.symm.trans h.1) (by decide)), if_neg (fun h => absurd (h0.symm.trans h.1) (by decide))]
            rw [this]
          rw [h1]
          exact rr_s1 s l m x0 hx0 hm hmb g1 w hE hsp n (by rw [beq_eq_false_iff_ne]; omega) hrd
      by_cases g2 : x0 = ⟨#[115, 116, 97, 114, 116]⟩
      · replace h0 : (dat l).getD 0 [] = wStart := by rw [h0, g2]; rfl
        by_cases hf : 2 ≤ n.length
        · have h1 : evR (dat l) n = some ⟨2, n.getD 0 0, n.getD 1 0, 0, 0, n.drop 2⟩ := by
            unfold evR
            rw [if_neg (fun h => absurd (h0.symm.trans h.1) (by decide)), if_pos ⟨h0, hf⟩]
          have h2 : restR s.data.toList (dat l) n = if okP ⟨2, n.getD 0 0, n.getD 1 0, 0, 0, n.drop 2⟩ ∧ evT ⟨2, n.getD 0 0, n.getD 1 0, 0, 0, n.drop 2⟩ = s.data.toList then (⟨2, n.getD 0 0, n.getD 1 0, 0, 0, n.drop 2⟩, 0) else (evZ, 90) := by
            unfold restR
            rw [h1]
          exact rr_f2 s l m x0 hx0 hm hmb g2 w hE hsp (by omega) n (decide_eq_true (by omega)) (by omega) (by omega) hnr hrd _ _ rfl h2
        · have h1 : restR s.data.toList (dat l) n = (evZ, 90) := by
            unfold restR
            have : evR (dat l) n = none := by
              unfold evR
              rw [if_neg (fun h => absurd (h0.symm.trans h.1) (by decide)), if_neg (fun h => hf h.2), if_neg (fun h => absurd (h0.symm.trans h.1.1) (by decide)), if_neg (fun h => absurd (h0.symm.trans h.1) (by decide)), if_neg (fun h => absurd (h0.symm.trans h.1) (by decide)), if_neg (fun h => absurd (h0.symm.trans h.1) (by decide)), if_neg (fun h => absurd (h0.symm.trans h.1) (by decide))]
            rw [this]
          rw [h1]
          exact rr_s2 s l m x0 hx0 hm hmb g2 w hE hsp n (decide_eq_false (by omega)) hrd
      by_cases g3 : x0 = ⟨#[101, 110, 100]⟩
      · replace h0 : (dat l).getD 0 [] = wEnd := by rw [h0, g3]; rfl
        have h1 : restR s.data.toList (dat l) n = (evZ, 90) := by
          unfold restR
          have : evR (dat l) n = none := by
            unfold evR
            rw [if_neg (fun h => absurd (h0.symm.trans h.1) (by decide)), if_neg (fun h => absurd (h0.symm.trans h.1) (by decide)), if_neg (fun h => he h.1), if_neg (fun h => absurd (h0.symm.trans h.1) (by decide)), if_neg (fun h => absurd (h0.symm.trans h.1) (by decide)), if_neg (fun h => absurd (h0.symm.trans h.1) (by decide)), if_neg (fun h => absurd (h0.symm.trans h.1) (by decide))]
          rw [this]
        rw [h1]
        exact rr_s3 s l m x0 hx0 hm hmb g3 w hE hsp (fun h => he ⟨h0, by omega⟩) n hrd
      by_cases g4 : x0 = ⟨#[112, 105, 110]⟩
      · replace h0 : (dat l).getD 0 [] = wPin := by rw [h0, g4]; rfl
        by_cases hf : n.length = 2
        · have h1 : evR (dat l) n = some ⟨4, n.getD 0 0, n.getD 1 0, 0, 0, []⟩ := by
            unfold evR
            rw [if_neg (fun h => absurd (h0.symm.trans h.1) (by decide)), if_neg (fun h => absurd (h0.symm.trans h.1) (by decide)), if_neg (fun h => absurd (h0.symm.trans h.1.1) (by decide)), if_pos ⟨h0, hf⟩]
          have h2 : restR s.data.toList (dat l) n = if okP ⟨4, n.getD 0 0, n.getD 1 0, 0, 0, []⟩ ∧ evT ⟨4, n.getD 0 0, n.getD 1 0, 0, 0, []⟩ = s.data.toList then (⟨4, n.getD 0 0, n.getD 1 0, 0, 0, []⟩, 0) else (evZ, 90) := by
            unfold restR
            rw [h1]
          exact rr_f4 s l m x0 hx0 hm hmb g4 w hE hsp (by omega) n (by rw [hf]; rfl) (by omega) (by omega) hnr hrd _ _ rfl h2
        · have h1 : restR s.data.toList (dat l) n = (evZ, 90) := by
            unfold restR
            have : evR (dat l) n = none := by
              unfold evR
              rw [if_neg (fun h => absurd (h0.symm.trans h.1) (by decide)), if_neg (fun h => absurd (h0.symm.trans h.1) (by decide)), if_neg (fun h => absurd (h0.symm.trans h.1.1) (by decide)), if_neg (fun h => hf h.2), if_neg (fun h => absurd (h0.symm.trans h.1) (by decide)), if_neg (fun h => absurd (h0.symm.trans h.1) (by decide)), if_neg (fun h => absurd (h0.symm.trans h.1) (by decide))]
            rw [this]
          rw [h1]
          exact rr_s4 s l m x0 hx0 hm hmb g4 w hE hsp n (by rw [beq_eq_false_iff_ne]; omega) hrd
      by_cases g5 : x0 = ⟨#[112, 97, 115, 115]⟩
      · replace h0 : (dat l).getD 0 [] = wPass := by rw [h0, g5]; rfl
        by_cases hf : 1 ≤ n.length
        · have h1 : evR (dat l) n = some ⟨5, 0, n.getD 0 0, 0, 0, n.drop 1⟩ := by
            unfold evR
            rw [if_neg (fun h => absurd (h0.symm.trans h.1) (by decide)), if_neg (fun h => absurd (h0.symm.trans h.1) (by decide)), if_neg (fun h => absurd (h0.symm.trans h.1.1) (by decide)), if_neg (fun h => absurd (h0.symm.trans h.1) (by decide)), if_pos ⟨h0, hf⟩]
          have h2 : restR s.data.toList (dat l) n = if okP ⟨5, 0, n.getD 0 0, 0, 0, n.drop 1⟩ ∧ evT ⟨5, 0, n.getD 0 0, 0, 0, n.drop 1⟩ = s.data.toList then (⟨5, 0, n.getD 0 0, 0, 0, n.drop 1⟩, 0) else (evZ, 90) := by
            unfold restR
            rw [h1]
          exact rr_f5 s l m x0 hx0 hm hmb g5 w hE hsp (by omega) n (decide_eq_true (by omega)) (by omega) (by omega) hnr hrd _ _ rfl h2
        · have h1 : restR s.data.toList (dat l) n = (evZ, 90) := by
            unfold restR
            have : evR (dat l) n = none := by
              unfold evR
              rw [if_neg (fun h => absurd (h0.symm.trans h.1) (by decide)), if_neg (fun h => absurd (h0.symm.trans h.1) (by decide)), if_neg (fun h => absurd (h0.symm.trans h.1.1) (by decide)), if_neg (fun h => absurd (h0.symm.trans h.1) (by decide)), if_neg (fun h => hf h.2), if_neg (fun h => absurd (h0.symm.trans h.1) (by decide)), if_neg (fun h => absurd (h0.symm.trans h.1) (by decide))]
            rw [this]
          rw [h1]
          exact rr_s5 s l m x0 hx0 hm hmb g5 w hE hsp n (decide_eq_false (by omega)) hrd
      by_cases g6 : x0 = ⟨#[116, 105, 99, 107]⟩
      · replace h0 : (dat l).getD 0 [] = wTick := by rw [h0, g6]; rfl
        by_cases hf : n.length = 1
        · have h1 : evR (dat l) n = some ⟨6, 0, n.getD 0 0, 0, 0, []⟩ := by
            unfold evR
            rw [if_neg (fun h => absurd (h0.symm.trans h.1) (by decide)), if_neg (fun h => absurd (h0.symm.trans h.1) (by decide)), if_neg (fun h => absurd (h0.symm.trans h.1.1) (by decide)), if_neg (fun h => absurd (h0.symm.trans h.1) (by decide)), if_neg (fun h => absurd (h0.symm.trans h.1) (by decide)), if_pos ⟨h0, hf⟩]
          have h2 : restR s.data.toList (dat l) n = if okP ⟨6, 0, n.getD 0 0, 0, 0, []⟩ ∧ evT ⟨6, 0, n.getD 0 0, 0, 0, []⟩ = s.data.toList then (⟨6, 0, n.getD 0 0, 0, 0, []⟩, 0) else (evZ, 90) := by
            unfold restR
            rw [h1]
          exact rr_f6 s l m x0 hx0 hm hmb g6 w hE hsp (by omega) n (by rw [hf]; rfl) (by omega) (by omega) hnr hrd _ _ rfl h2
        · have h1 : restR s.data.toList (dat l) n = (evZ, 90) := by
            unfold restR
            have : evR (dat l) n = none := by
              unfold evR
              rw [if_neg (fun h => absurd (h0.symm.trans h.1) (by decide)), if_neg (fun h => absurd (h0.symm.trans h.1) (by decide)), if_neg (fun h => absurd (h0.symm.trans h.1.1) (by decide)), if_neg (fun h => absurd (h0.symm.trans h.1) (by decide)), if_neg (fun h => absurd (h0.symm.trans h.1) (by decide)), if_neg (fun h => hf h.2), if_neg (fun h => absurd (h0.symm.trans h.1) (by decide))]
            rw [this]
          rw [h1]
          exact rr_s6 s l m x0 hx0 hm hmb g6 w hE hsp n (by rw [beq_eq_false_iff_ne]; omega) hrd
      by_cases g7 : x0 = ⟨#[100, 101, 99, 97, 121]⟩
      · replace h0 : (dat l).getD 0 [] = wDecay := by rw [h0, g7]; rfl
        by_cases hf : n.length = 1
        · have h1 : evR (dat l) n = some ⟨7, 0, n.getD 0 0, 0, 0, []⟩ := by
            unfold evR
            rw [if_neg (fun h => absurd (h0.symm.trans h.1) (by decide)), if_neg (fun h => absurd (h0.symm.trans h.1) (by decide)), if_neg (fun h => absurd (h0.symm.trans h.1.1) (by decide)), if_neg (fun h => absurd (h0.symm.trans h.1) (by decide)), if_neg (fun h => absurd (h0.symm.trans h.1) (by decide)), if_neg (fun h => absurd (h0.symm.trans h.1) (by decide)), if_pos ⟨h0, hf⟩]
          have h2 : restR s.data.toList (dat l) n = if okP ⟨7, 0, n.getD 0 0, 0, 0, []⟩ ∧ evT ⟨7, 0, n.getD 0 0, 0, 0, []⟩ = s.data.toList then (⟨7, 0, n.getD 0 0, 0, 0, []⟩, 0) else (evZ, 90) := by
            unfold restR
            rw [h1]
          exact rr_f7 s l m x0 hx0 hm hmb g7 w hE hsp (by omega) n (by rw [hf]; rfl) (by omega) (by omega) hnr hrd _ _ rfl h2
        · have h1 : restR s.data.toList (dat l) n = (evZ, 90) := by
            unfold restR
            have : evR (dat l) n = none := by
              unfold evR
              rw [if_neg (fun h => absurd (h0.symm.trans h.1) (by decide)), if_neg (fun h => absurd (h0.symm.trans h.1) (by decide)), if_neg (fun h => absurd (h0.symm.trans h.1.1) (by decide)), if_neg (fun h => absurd (h0.symm.trans h.1) (by decide)), if_neg (fun h => absurd (h0.symm.trans h.1) (by decide)), if_neg (fun h => absurd (h0.symm.trans h.1) (by decide)), if_neg (fun h => hf h.2)]
            rw [this]
          rw [h1]
          exact rr_s7 s l m x0 hx0 hm hmb g7 w hE hsp n (by rw [beq_eq_false_iff_ne]; omega) hrd
      have h1 : restR s.data.toList (dat l) n = (evZ, 90) := by
        unfold restR
        have : evR (dat l) n = none := by
          unfold evR
          rw [if_neg (fun h => g1 (by rw [← ofL_data x0, h0.symm.trans h.1]; rfl)), if_neg (fun h => g2 (by rw [← ofL_data x0, h0.symm.trans h.1]; rfl)), if_neg (fun h => he h.1), if_neg (fun h => g4 (by rw [← ofL_data x0, h0.symm.trans h.1]; rfl)), if_neg (fun h => g5 (by rw [← ofL_data x0, h0.symm.trans h.1]; rfl)), if_neg (fun h => g6 (by rw [← ofL_data x0, h0.symm.trans h.1]; rfl)), if_neg (fun h => g7 (by rw [← ofL_data x0, h0.symm.trans h.1]; rfl))]
        rw [this]
      rw [h1]
      exact rr_s0 s l m x0 hx0 hm hmb g1 g2 g3 g4 g5 g6 g7 w hE hsp n hrd

end Go.Proofs.YtokioddaonknpaaDoor.A
