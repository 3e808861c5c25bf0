/- Own text (printed by gen15.py): the walk of the reference's ReadEvent. -/
import Derived.Test.YtokioddaonknpaaDoorR15
namespace Go.Proofs.YtokioddaonknpaaDoor.A
open Go.RowKit Go.Proofs.YtokioddaonknpaaDoorW.PrintWords Go.Proofs.YtokioddaonknpaaDoor.PAnswersReads
set_option linter.unusedSimpArgs false
set_option linter.unusedVariables false
set_option maxHeartbeats 8000000
set_option maxRecDepth 100000

theorem rr_f1 (s : ByteArray) (l : List ByteArray) (m : Nat) (x0 : ByteArray) (hx0 : x0 = l.getD 0 ByteArray.empty) (hm : l.length = m + 1) (hmb : m ≤ 2147483649) (hx : x0 = ⟨#[115, 117, 98, 109, 105, 116]⟩) (w : World) (hE : Env w)
    (hsp : ∀ W, Env W → Calls Tryd.prog 28 #[.string s, .int .u8 32] W (CutPost l m W)) (hm1 : 1 ≤ m) (n : List Int) (hf : ((n.length : Int) == 4) = true) (hk : 4 ≤ n.length) (hnl : n.length ≤ 4294967296) (hnr : ∀ x ∈ n, Rng x) (hrd : ∀ W A2 c2, Kd.C Kd.string W A2 m (l.drop 1) → m ≤ c2 → Calls Tryd.prog 30 #[.slice A2 m c2] W (RdSome n W)) (r : Ev × Int) (ev : Ev) (hev : ev = ⟨1, (n.getD 0 0), (n.getD 1 0), (n.getD 2 0), (n.getD 3 0), []⟩) (hr : r = if okP ev ∧ evT ev = s.data.toList then (ev, 0) else (evZ, 90)) :
    Calls Tryd.prog 11 #[.string s] w (RdOf r w) := by
  subst hx
  have hB0 := (Below.refl w.heap.size w).alloc (Nat.le_refl _) (.cells (evCells evZ none 0) 24)
  have HE0 := Km (alloc_ev (w := w) rfl evZ none 0)
  have HS := Lib.hid (hsp _ (hE.step hB0))
  have HB0 := Km hB0
  have HE := Km hE
  have HX := Km hx0
  have HM := Km hm
  clear hsp hB0 hE hx0 hm
  have i1 : (0 : Int) < ((m + 1 : Nat) : Int) := by omega
  have HRD := Lib.hid hrd
  clear hrd
  have k0 : (0 : Int) < (n.length : Int) := by omega
  obtain ⟨v0, hv0_⟩ : ∃ v, v = n.getD 0 0 := ⟨_, rfl⟩
  have k1 : (1 : Int) < (n.length : Int) := by omega
  obtain ⟨v1, hv1_⟩ : ∃ v, v = n.getD 1 0 := ⟨_, rfl⟩
  have k2 : (2 : Int) < (n.length : Int) := by omega
  obtain ⟨v2, hv2_⟩ : ∃ v, v = n.getD 2 0 := ⟨_, rfl⟩
  have k3 : (3 : Int) < (n.length : Int) := by omega
  obtain ⟨v3, hv3_⟩ : ∃ v, v = n.getD 3 0 := ⟨_, rfl⟩
  have HVR := Km (show Rng v0 ∧ Rng v1 ∧ Rng v2 ∧ Rng v3 ∧ True from ⟨(by rw [hv0_]; exact getD_rng hnr 0), (by rw [hv1_]; exact getD_rng hnr 1), (by rw [hv2_]; exact getD_rng hnr 2), (by rw [hv3_]; exact getD_rng hnr 3), trivial⟩)
  replace hev : ev = ⟨1, v0, v1, v2, v3, []⟩ := by rw [hev, hv0_, hv1_, hv2_, hv3_]
  have HV := Km (show v0 = n.getD 0 0 ∧ v1 = n.getD 1 0 ∧ v2 = n.getD 2 0 ∧ v3 = n.getD 3 0 ∧ True from ⟨hv0_, hv1_, hv2_, hv3_, trivial⟩)
  have HK := Km hk
  have HNL := Km hnl
  have HEV := Km hev
  have HRR := Km hr
  clear hk hnl hnr hev hr hv0_ hv1_ hv2_ hv3_
  go_enter Tryd.func11, Tryd.ntmps11
  go_wp2_with (go_at_call 28; refine HS.out.mono ?_; rintro x w1 ⟨g, c, rfl, hg, hc, hC, hb1⟩; refine Hid.out ?_)
  refine Lib.hid ?_
  have hB1 := HB0.out.trans (hb1.mono HB0.out.size)
  obtain ⟨ad, e, hc0⟩ := Kd.at_string hC 0 (by omega) i1
  cases e
  replace hc0 : w1.cell? ⟨g, 0, none⟩ = some (.string ⟨#[115, 117, 98, 109, 105, 116]⟩) := hc0.trans (by rw [HX.out]; rfl)
  have hgl := World.block_lt_of_cell? w1 _ hc0
  have HGL := Km hgl
  have HC0 := Km hc0
  have HR1 := Km (ev_below HE0.out hb1)
  have HHC := Km hc
  have HHG := Km hg
  have HC1 := Km (Kd.C_alloc hC (.cells (evCells evZ none 0) 24))
  have HB2 := Km (below_alloc hB1 (.cells (evCells evZ none 0) 24))
  have HR2 := Km (ev_below HR1.out (ba (o := .cells (evCells evZ none 0) 24)))
  have HE2 := Km (alloc_ev (w := w1) rfl evZ none 0)
  clear hB1 hb1 hC HB0 HE0 hg HR1 hc
  have i5 : ¬ c = 1 := by have := HHC.out; omega
  have HCT := Km (show Kd.C Kd.string (w1.alloc (.cells (evCells evZ none 0) 24)) (some ⟨g, 1, none⟩) m (l.drop 1) by
    have h := Kd.C_drop (m := 1) (c := c) (k := Kd.string) (by rw [HM.out]; exact HC1.out) (by rw [HM.out]; omega) (by rw [HM.out]; exact HHC.out)
    rw [if_neg i5, List.length_drop, HM.out] at h
    exact h)
  clear hm1
  go_wp2_with (go_at_call 30; refine (HRD.out _ _ _ HCT.out (by have := HHC.out; omega)).mono ?_; rintro x w2 ⟨A3, c3, rfl, hc3, hC3, hA3, hb2⟩; refine Hid.out ?_)
  refine Lib.hid ?_
  have HR3 := Km (ev_below HR2.out hb2)
  have HE3 := Km (ev_below HE2.out hb2)
  have HB3 := Km (HB2.out.trans (hb2.mono HB2.out.size))
  have hx2 : w2.cell? ⟨g, 0, none⟩ = some (.string ⟨#[115, 117, 98, 109, 105, 116]⟩) := (hb2.cell (p := ⟨g, 0, none⟩) (by rw [World.size_alloc]; have := HGL.out; show g < _; omega)).trans ((Below.cell ba (p := ⟨g, 0, none⟩) HGL.out).trans HC0.out)
  obtain ⟨o0, o1, o2, o3, o4, o5, of_⟩ := ev_cells HE3.out
  dsimp only [evZ] at o0 o1 o2 o3 o4 o5
  have HC3 := Km hC3
  have HA3 := Km hA3
  have HCC := Km hc3
  obtain ⟨a3, rfl, m0⟩ := Kd.at_int hC3 0 (by omega) k0
  obtain ⟨_, e1, m1⟩ := Kd.at_int hC3 1 (by omega) k1
  cases e1
  obtain ⟨_, e2, m2⟩ := Kd.at_int hC3 2 (by omega) k2
  cases e2
  obtain ⟨_, e3, m3⟩ := Kd.at_int hC3 3 (by omega) k3
  cases e3
  replace m0 : w2.cell? a3 = some (.int .i64 v0) := Eq.trans m0 (by rw [HV.out.1]; rfl)
  replace m1 : w2.cell? ⟨a3.block, a3.off + 1, none⟩ = some (.int .i64 v1) := Eq.trans m1 (by rw [HV.out.2.1]; rfl)
  replace m2 : w2.cell? ⟨a3.block, a3.off + 2, none⟩ = some (.int .i64 v2) := Eq.trans m2 (by rw [HV.out.2.2.1]; rfl)
  replace m3 : w2.cell? ⟨a3.block, a3.off + 3, none⟩ = some (.int .i64 v3) := Eq.trans m3 (by rw [HV.out.2.2.2.1]; rfl)
  clear hb2 hc0 hgl i5 hc3 hC3 hA3
  go_wp2_with (fail)
  go_region
  go_wp2_with (go_at_call 8; refine Hid.out ?_)
  refine Lib.hid ?_
  refine calls_gen ?_
  intro W hW
  have hlt : w.heap.size < w1.heap.size := by have h1 := HHG.out; have h2 := HGL.out; rw [World.size_alloc] at h1; omega
  have hle : w.heap.size ≤ w1.heap.size := Nat.le_of_lt hlt
  have HE4 := Km (show IsEv W w1.heap.size ⟨1, v0, v1, v2, v3, []⟩ none 0 by rw [hW]; exact (ev_below (put6_ev HE3.out ⟨1, v0, v1, v2, v3, []⟩ none 0) (below_drew (Below.refl _ _))))
  have HB4 := Km (show Below w.heap.size w W by rw [hW]; exact (below_drew (put6_below HB3.out hle ⟨1, v0, v1, v2, v3, []⟩ none 0)))
  have hBb : Below w1.heap.size w2 W := by rw [hW]; exact (below_drew (put6_below (Below.refl w1.heap.size w2) (Nat.le_refl _) ⟨1, v0, v1, v2, v3, []⟩ none 0))
  have HR4 := Km (show IsEv W w.heap.size evZ none 0 from (hBb.block _ hlt).trans HR3.out)
  have hea := revent_any ⟨1, v0, v1, v2, v3, []⟩ none 0 W (HE.out.step HB4.out) (by obtain ⟨q0, q1, q2, q3, _⟩ := HVR.out; exact ⟨q0, q1, q2, q3, fun _ h => by cases h⟩) (Kd.C_nil _ _) (Nat.le_refl _) (Nat.zero_le _)
  rw [show evA ⟨1, v0, v1, v2, v3, []⟩ = evA ev from by rw [HEV.out]] at hea
  have HEA := Lib.hid hea
  clear hW hBb hea o0 o1 o2 o3 o4 o5 of_ m0 m1 m2 m3 hx2
  refine Calls.mono HEA.out ?_
  rintro x w4 ⟨rfl, hb4⟩
  have HR5 := Km (ev_below HR4.out hb4)
  have HE5 := Km (ev_below HE4.out hb4)
  have HB5 := Km (HB4.out.trans (hb4.mono HB4.out.size))
  clear hb4
  obtain ⟨r0, r1, r2, r3, r4, r5, rf⟩ := ev_cells HR5.out
  obtain ⟨o0, o1, o2, o3, o4, o5, of_⟩ := ev_cells HE5.out
  (try dsimp only at o0 o1 o2 o3 o4 o5)
  by_cases hok : okP ev
  · have hA : evA ev = (evT ev, 0) := if_pos hok
    rw [hA]
    by_cases heq : evT ev = s.data.toList
    · have hbe : ((ofL (evT ev)).toList == s.toList) = true := by rw [beq_iff_eq, toList_data, toList_data, data_ofL]; exact heq
      have HRT := Km (HRR.out.trans (if_pos ⟨hok, heq⟩))
      clear hok hA heq
      go_wp2
      refine rd_close (b := w.heap.size) (e := ⟨1, v0, v1, v2, v3, []⟩) (A := none) (c := 0) (code := 0) rfl rfl (put6_ev HR5.out ⟨1, v0, v1, v2, v3, []⟩ none 0) ?_
      rw [HRT.out, HEV.out]
      have hBf := put6_below HB5.out (Nat.le_refl _) ⟨1, v0, v1, v2, v3, []⟩ none 0
      exact ⟨none, 0, rfl, (Nat.le_refl _), Kd.C_nil _ _, hBf⟩
    · have hbe : ((ofL (evT ev)).toList == s.toList) = false := by rw [beq_eq_false_iff_ne, toList_data, toList_data, data_ofL]; exact heq
      have HRT := Km (HRR.out.trans (if_neg (fun h => heq h.2)))
      clear hok hA heq
      go_wp2
      refine rd_close (b := w.heap.size) (e := evZ) (A := none) (c := 0) (code := 90) rfl rfl (put6_ev HR5.out evZ none 0) ?_
      rw [HRT.out]
      exact ⟨none, 0, rfl, Nat.le_refl _, Kd.C_nil _ _, put6_below HB5.out (Nat.le_refl _) evZ none 0⟩
  · have hA : evA ev = ([], 90) := if_neg hok
    rw [hA]
    have HRT := Km (HRR.out.trans (if_neg (fun h => hok h.1)))
    clear hok hA
    go_wp2
    refine rd_close (b := w.heap.size) (e := evZ) (A := none) (c := 0) (code := 90) rfl rfl (put6_ev HR5.out evZ none 0) ?_
    rw [HRT.out]
    exact ⟨none, 0, rfl, Nat.le_refl _, Kd.C_nil _ _, put6_below HB5.out (Nat.le_refl _) evZ none 0⟩

theorem rr_f2 (s : ByteArray) (l : List ByteArray) (m : Nat) (x0 : ByteArray) (hx0 : x0 = l.getD 0 ByteArray.empty) (hm : l.length = m + 1) (hmb : m ≤ 2147483649) (hx : x0 = ⟨#[115, 116, 97, 114, 116]⟩) (w : World) (hE : Env w)
    (hsp : ∀ W, Env W → Calls Tryd.prog 28 #[.string s, .int .u8 32] W (CutPost l m W)) (hm1 : 1 ≤ m) (n : List Int) (hf : decide (2 ≤ (n.length : Int)) = true) (hk : 2 ≤ n.length) (hnl : n.length ≤ 4294967296) (hnr : ∀ x ∈ n, Rng x) (hrd : ∀ W A2 c2, Kd.C Kd.string W A2 m (l.drop 1) → m ≤ c2 → Calls Tryd.prog 30 #[.slice A2 m c2] W (RdSome n W)) (r : Ev × Int) (ev : Ev) (hev : ev = ⟨2, (n.getD 0 0), (n.getD 1 0), 0, 0, n.drop 2⟩) (hr : r = if okP ev ∧ evT ev = s.data.toList then (ev, 0) else (evZ, 90)) :
    Calls Tryd.prog 11 #[.string s] w (RdOf r w) := by
  subst hx
  have hB0 := (Below.refl w.heap.size w).alloc (Nat.le_refl _) (.cells (evCells evZ none 0) 24)
  have HE0 := Km (alloc_ev (w := w) rfl evZ none 0)
  have HS := Lib.hid (hsp _ (hE.step hB0))
  have HB0 := Km hB0
  have HE := Km hE
  have HX := Km hx0
  have HM := Km hm
  clear hsp hB0 hE hx0 hm
  have i1 : (0 : Int) < ((m + 1 : Nat) : Int) := by omega
  have HRD := Lib.hid hrd
  clear hrd
  have k0 : (0 : Int) < (n.length : Int) := by omega
  obtain ⟨v0, hv0_⟩ : ∃ v, v = n.getD 0 0 := ⟨_, rfl⟩
  have k1 : (1 : Int) < (n.length : Int) := by omega
  obtain ⟨v1, hv1_⟩ : ∃ v, v = n.getD 1 0 := ⟨_, rfl⟩
  have HVR := Km (show Rng v0 ∧ Rng v1 ∧ True from ⟨(by rw [hv0_]; exact getD_rng hnr 0), (by rw [hv1_]; exact getD_rng hnr 1), trivial⟩)
  obtain ⟨ls, hls⟩ : ∃ ls, ls = n.drop 2 := ⟨_, rfl⟩
  rw [← hls] at hev
  have HNR := Km (show ∀ x ∈ ls, Rng x from fun x h => hnr x (List.mem_of_mem_drop (by rw [hls] at h; exact h)))
  have HLS := Km hls
  clear hls
  replace hev : ev = ⟨2, v0, v1, 0, 0, ls⟩ := by rw [hev, hv0_, hv1_]
  have HV := Km (show v0 = n.getD 0 0 ∧ v1 = n.getD 1 0 ∧ True from ⟨hv0_, hv1_, trivial⟩)
  have HK := Km hk
  have HNL := Km hnl
  have HEV := Km hev
  have HRR := Km hr
  clear hk hnl hnr hev hr hv0_ hv1_
  go_enter Tryd.func11, Tryd.ntmps11
  go_wp2_with (go_at_call 28; refine HS.out.mono ?_; rintro x w1 ⟨g, c, rfl, hg, hc, hC, hb1⟩; refine Hid.out ?_)
  refine Lib.hid ?_
  have hB1 := HB0.out.trans (hb1.mono HB0.out.size)
  obtain ⟨ad, e, hc0⟩ := Kd.at_string hC 0 (by omega) i1
  cases e
  replace hc0 : w1.cell? ⟨g, 0, none⟩ = some (.string ⟨#[115, 116, 97, 114, 116]⟩) := hc0.trans (by rw [HX.out]; rfl)
  have hgl := World.block_lt_of_cell? w1 _ hc0
  have HGL := Km hgl
  have HC0 := Km hc0
  have HR1 := Km (ev_below HE0.out hb1)
  have HHC := Km hc
  have HHG := Km hg
  have HC1 := Km (Kd.C_alloc hC (.cells (evCells evZ none 0) 24))
  have HB2 := Km (below_alloc hB1 (.cells (evCells evZ none 0) 24))
  have HR2 := Km (ev_below HR1.out (ba (o := .cells (evCells evZ none 0) 24)))
  have HE2 := Km (alloc_ev (w := w1) rfl evZ none 0)
  clear hB1 hb1 hC HB0 HE0 hg HR1 hc
  have i5 : ¬ c = 1 := by have := HHC.out; omega
  have HCT := Km (show Kd.C Kd.string (w1.alloc (.cells (evCells evZ none 0) 24)) (some ⟨g, 1, none⟩) m (l.drop 1) by
    have h := Kd.C_drop (m := 1) (c := c) (k := Kd.string) (by rw [HM.out]; exact HC1.out) (by rw [HM.out]; omega) (by rw [HM.out]; exact HHC.out)
    rw [if_neg i5, List.length_drop, HM.out] at h
    exact h)
  clear hm1
  go_wp2_with (go_at_call 30; refine (HRD.out _ _ _ HCT.out (by have := HHC.out; omega)).mono ?_; rintro x w2 ⟨A3, c3, rfl, hc3, hC3, hA3, hb2⟩; refine Hid.out ?_)
  refine Lib.hid ?_
  have HR3 := Km (ev_below HR2.out hb2)
  have HE3 := Km (ev_below HE2.out hb2)
  have HB3 := Km (HB2.out.trans (hb2.mono HB2.out.size))
  have hx2 : w2.cell? ⟨g, 0, none⟩ = some (.string ⟨#[115, 116, 97, 114, 116]⟩) := (hb2.cell (p := ⟨g, 0, none⟩) (by rw [World.size_alloc]; have := HGL.out; show g < _; omega)).trans ((Below.cell ba (p := ⟨g, 0, none⟩) HGL.out).trans HC0.out)
  obtain ⟨o0, o1, o2, o3, o4, o5, of_⟩ := ev_cells HE3.out
  dsimp only [evZ] at o0 o1 o2 o3 o4 o5
  have HC3 := Km hC3
  have HA3 := Km hA3
  have HCC := Km hc3
  obtain ⟨a3, rfl, m0⟩ := Kd.at_int hC3 0 (by omega) k0
  obtain ⟨_, e1, m1⟩ := Kd.at_int hC3 1 (by omega) k1
  cases e1
  replace m0 : w2.cell? a3 = some (.int .i64 v0) := Eq.trans m0 (by rw [HV.out.1]; rfl)
  replace m1 : w2.cell? ⟨a3.block, a3.off + 1, none⟩ = some (.int .i64 v1) := Eq.trans m1 (by rw [HV.out.2.1]; rfl)
  clear hb2 hc0 hgl i5 hc3 hC3 hA3
  go_wp2_with (fail)
  go_region
  go_wp2_with (go_at_call 8; refine Hid.out ?_)
  all_goals refine Lib.hid ?_
  · have hyes : c3 = 2 := by assumption
    have hdl : ls.length = n.length - 2 := by rw [HLS.out]; exact List.length_drop
    have hD := Kd.C_drop (m := 2) HC3.out HK.out HCC.out
    rw [if_pos hyes, ← HLS.out] at hD
    have HD := Km hD
    clear hD
    rw [← hdl]
    refine calls_gen ?_
    intro W hW
    have hlt : w.heap.size < w1.heap.size := by have h1 := HHG.out; have h2 := HGL.out; rw [World.size_alloc] at h1; omega
    have hle : w.heap.size ≤ w1.heap.size := Nat.le_of_lt hlt
    have HE4 := Km (show IsEv W w1.heap.size ⟨2, v0, v1, 0, 0, ls⟩ (some a3) 0 by rw [hW]; exact (ev_below (put6_ev HE3.out ⟨2, v0, v1, 0, 0, ls⟩ (some a3) 0) (below_drew (Below.refl _ _))))
    have HB4 := Km (show Below w.heap.size w W by rw [hW]; exact (below_drew (put6_below HB3.out hle ⟨2, v0, v1, 0, 0, ls⟩ (some a3) 0)))
    have hBb : Below w1.heap.size w2 W := by rw [hW]; exact (below_drew (put6_below (Below.refl w1.heap.size w2) (Nat.le_refl _) ⟨2, v0, v1, 0, 0, ls⟩ (some a3) 0))
    have HR4 := Km (show IsEv W w.heap.size evZ none 0 from (hBb.block _ hlt).trans HR3.out)
    have hfb : 0 < n.length → w1.heap.size < a3.block := fun h => by have := HA3.out a3 rfl h; rw [World.size_alloc] at this; omega
    have hfa : ∀ ad : Addr, ((some a3) : Option Addr) = some ad → 0 < ls.length → ad.block ≠ w1.heap.size := fun ad h hp => by
      have h1 := hfb (by omega)
      injection h with h
      rw [← h]
      show a3.block ≠ _
      omega
    have HC4 := Km (show Kd.C (Kd.int .i64) W (some a3) ls.length ls by rw [hW]; exact (Kd.C_drew (Kd.C_keep (d := (0 : Int)) (g := w1.heap.size) HD.out (put6_keep w2 w1.heap.size ⟨2, v0, v1, 0, 0, ls⟩ (some a3) 0) hfa)))
    have HA4 := Km (show ∀ ad : Addr, ((some a3) : Option Addr) = some ad → 0 < ls.length → ad.block ≠ w.heap.size from fun ad h hp => by
      have h1 := hfb (by omega)
      injection h with h
      rw [← h]
      show a3.block ≠ _
      omega)
    have HL4 := Km (show ls.length ≤ 0 by have := HCC.out; omega)
    have hea := revent_any ⟨2, v0, v1, 0, 0, ls⟩ (some a3) 0 W (HE.out.step HB4.out) (by obtain ⟨q0, q1, _⟩ := HVR.out; exact ⟨q0, q1, rng0, rng0, HNR.out⟩) HC4.out HL4.out (by have h1 := HNL.out; have h2 := congrArg List.length HLS.out; rw [List.length_drop] at h2; show ls.length ≤ _; omega)
    rw [show evA ⟨2, v0, v1, 0, 0, ls⟩ = evA ev from by rw [HEV.out]] at hea
    have HEA := Lib.hid hea
    clear hW hBb hea o0 o1 o2 o3 o4 o5 of_ m0 m1 hx2 hdl hfb hfa
    refine Calls.mono HEA.out ?_
    rintro x w4 ⟨rfl, hb4⟩
    have HR5 := Km (ev_below HR4.out hb4)
    have HE5 := Km (ev_below HE4.out hb4)
    have HB5 := Km (HB4.out.trans (hb4.mono HB4.out.size))
    have HC5 := Km (Kd.C_below HC4.out hb4)
    clear hb4
    obtain ⟨r0, r1, r2, r3, r4, r5, rf⟩ := ev_cells HR5.out
    obtain ⟨o0, o1, o2, o3, o4, o5, of_⟩ := ev_cells HE5.out
    (try dsimp only at o0 o1 o2 o3 o4 o5)
    by_cases hok : okP ev
    · have hA : evA ev = (evT ev, 0) := if_pos hok
      rw [hA]
      by_cases heq : evT ev = s.data.toList
      · have hbe : ((ofL (evT ev)).toList == s.toList) = true := by rw [beq_iff_eq, toList_data, toList_data, data_ofL]; exact heq
        have HRT := Km (HRR.out.trans (if_pos ⟨hok, heq⟩))
        clear hok hA heq
        go_wp2
        refine rd_close (b := w.heap.size) (e := ⟨2, v0, v1, 0, 0, ls⟩) (A := some a3) (c := 0) (code := 0) rfl rfl (put6_ev HR5.out ⟨2, v0, v1, 0, 0, ls⟩ (some a3) 0) ?_
        rw [HRT.out, HEV.out]
        have hBf := put6_below HB5.out (Nat.le_refl _) ⟨2, v0, v1, 0, 0, ls⟩ (some a3) 0
        exact ⟨some a3, 0, rfl, HL4.out, Kd.C_keep (d := (0 : Int)) (g := w.heap.size) HC5.out (put6_keep w4 w.heap.size ⟨2, v0, v1, 0, 0, ls⟩ (some a3) 0) HA4.out, hBf⟩
      · have hbe : ((ofL (evT ev)).toList == s.toList) = false := by rw [beq_eq_false_iff_ne, toList_data, toList_data, data_ofL]; exact heq
        have HRT := Km (HRR.out.trans (if_neg (fun h => heq h.2)))
        clear hok hA heq
        go_wp2
        refine rd_close (b := w.heap.size) (e := evZ) (A := none) (c := 0) (code := 90) rfl rfl (put6_ev HR5.out evZ none 0) ?_
        rw [HRT.out]
        exact ⟨none, 0, rfl, Nat.le_refl _, Kd.C_nil _ _, put6_below HB5.out (Nat.le_refl _) evZ none 0⟩
    · have hA : evA ev = ([], 90) := if_neg hok
      rw [hA]
      have HRT := Km (HRR.out.trans (if_neg (fun h => hok h.1)))
      clear hok hA
      go_wp2
      refine rd_close (b := w.heap.size) (e := evZ) (A := none) (c := 0) (code := 90) rfl rfl (put6_ev HR5.out evZ none 0) ?_
      rw [HRT.out]
      exact ⟨none, 0, rfl, Nat.le_refl _, Kd.C_nil _ _, put6_below HB5.out (Nat.le_refl _) evZ none 0⟩
  · have hne : ¬ c3 = 2 := by assumption
    have hdl : ls.length = n.length - 2 := by rw [HLS.out]; exact List.length_drop
    have hD := Kd.C_drop (m := 2) HC3.out HK.out HCC.out
    rw [if_neg hne, ← HLS.out] at hD
    have HD := Km hD
    clear hD
    rw [← hdl]
    refine calls_gen ?_
    intro W hW
    have hlt : w.heap.size < w1.heap.size := by have h1 := HHG.out; have h2 := HGL.out; rw [World.size_alloc] at h1; omega
    have hle : w.heap.size ≤ w1.heap.size := Nat.le_of_lt hlt
    have HE4 := Km (show IsEv W w1.heap.size ⟨2, v0, v1, 0, 0, ls⟩ (some ⟨a3.block, a3.off + 2, none⟩) (c3 - 2) by rw [hW]; exact (ev_below (put6_ev HE3.out ⟨2, v0, v1, 0, 0, ls⟩ (some ⟨a3.block, a3.off + 2, none⟩) (c3 - 2)) (below_drew (Below.refl _ _))))
    have HB4 := Km (show Below w.heap.size w W by rw [hW]; exact (below_drew (put6_below HB3.out hle ⟨2, v0, v1, 0, 0, ls⟩ (some ⟨a3.block, a3.off + 2, none⟩) (c3 - 2))))
    have hBb : Below w1.heap.size w2 W := by rw [hW]; exact (below_drew (put6_below (Below.refl w1.heap.size w2) (Nat.le_refl _) ⟨2, v0, v1, 0, 0, ls⟩ (some ⟨a3.block, a3.off + 2, none⟩) (c3 - 2)))
    have HR4 := Km (show IsEv W w.heap.size evZ none 0 from (hBb.block _ hlt).trans HR3.out)
    have hfb : 0 < n.length → w1.heap.size < a3.block := fun h => by have := HA3.out a3 rfl h; rw [World.size_alloc] at this; omega
    have hfa : ∀ ad : Addr, ((some ⟨a3.block, a3.off + 2, none⟩) : Option Addr) = some ad → 0 < ls.length → ad.block ≠ w1.heap.size := fun ad h hp => by
      have h1 := hfb (by omega)
      injection h with h
      rw [← h]
      show a3.block ≠ _
      omega
    have HC4 := Km (show Kd.C (Kd.int .i64) W (some ⟨a3.block, a3.off + 2, none⟩) ls.length ls by rw [hW]; exact (Kd.C_drew (Kd.C_keep (d := (0 : Int)) (g := w1.heap.size) HD.out (put6_keep w2 w1.heap.size ⟨2, v0, v1, 0, 0, ls⟩ (some ⟨a3.block, a3.off + 2, none⟩) (c3 - 2)) hfa)))
    have HA4 := Km (show ∀ ad : Addr, ((some ⟨a3.block, a3.off + 2, none⟩) : Option Addr) = some ad → 0 < ls.length → ad.block ≠ w.heap.size from fun ad h hp => by
      have h1 := hfb (by omega)
      injection h with h
      rw [← h]
      show a3.block ≠ _
      omega)
    have HL4 := Km (show ls.length ≤ (c3 - 2) by have := HCC.out; omega)
    have hea := revent_any ⟨2, v0, v1, 0, 0, ls⟩ (some ⟨a3.block, a3.off + 2, none⟩) (c3 - 2) W (HE.out.step HB4.out) (by obtain ⟨q0, q1, _⟩ := HVR.out; exact ⟨q0, q1, rng0, rng0, HNR.out⟩) HC4.out HL4.out (by have h1 := HNL.out; have h2 := congrArg List.length HLS.out; rw [List.length_drop] at h2; show ls.length ≤ _; omega)
    rw [show evA ⟨2, v0, v1, 0, 0, ls⟩ = evA ev from by rw [HEV.out]] at hea
    have HEA := Lib.hid hea
    clear hW hBb hea o0 o1 o2 o3 o4 o5 of_ m0 m1 hx2 hdl hfb hfa
    refine Calls.mono HEA.out ?_
    rintro x w4 ⟨rfl, hb4⟩
    have HR5 := Km (ev_below HR4.out hb4)
    have HE5 := Km (ev_below HE4.out hb4)
    have HB5 := Km (HB4.out.trans (hb4.mono HB4.out.size))
    have HC5 := Km (Kd.C_below HC4.out hb4)
    clear hb4
    obtain ⟨r0, r1, r2, r3, r4, r5, rf⟩ := ev_cells HR5.out
    obtain ⟨o0, o1, o2, o3, o4, o5, of_⟩ := ev_cells HE5.out
    (try dsimp only at o0 o1 o2 o3 o4 o5)
    by_cases hok : okP ev
    · have hA : evA ev = (evT ev, 0) := if_pos hok
      rw [hA]
      by_cases heq : evT ev = s.data.toList
      · have hbe : ((ofL (evT ev)).toList == s.toList) = true := by rw [beq_iff_eq, toList_data, toList_data, data_ofL]; exact heq
        have HRT := Km (HRR.out.trans (if_pos ⟨hok, heq⟩))
        clear hok hA heq
        go_wp2
        refine rd_close (b := w.heap.size) (e := ⟨2, v0, v1, 0, 0, ls⟩) (A := some ⟨a3.block, a3.off + 2, none⟩) (c := (c3 - 2)) (code := 0) rfl rfl (put6_ev HR5.out ⟨2, v0, v1, 0, 0, ls⟩ (some ⟨a3.block, a3.off + 2, none⟩) (c3 - 2)) ?_
        rw [HRT.out, HEV.out]
        have hBf := put6_below HB5.out (Nat.le_refl _) ⟨2, v0, v1, 0, 0, ls⟩ (some ⟨a3.block, a3.off + 2, none⟩) (c3 - 2)
        exact ⟨some ⟨a3.block, a3.off + 2, none⟩, (c3 - 2), rfl, HL4.out, Kd.C_keep (d := (0 : Int)) (g := w.heap.size) HC5.out (put6_keep w4 w.heap.size ⟨2, v0, v1, 0, 0, ls⟩ (some ⟨a3.block, a3.off + 2, none⟩) (c3 - 2)) HA4.out, hBf⟩
      · have hbe : ((ofL (evT ev)).toList == s.toList) = false := by rw [beq_eq_false_iff_ne, toList_data, toList_data, data_ofL]; exact heq
        have HRT := Km (HRR.out.trans (if_neg (fun h => heq h.2)))
        clear hok hA heq
        go_wp2
        refine rd_close (b := w.heap.size) (e := evZ) (A := none) (c := 0) (code := 90) rfl rfl (put6_ev HR5.out evZ none 0) ?_
        rw [HRT.out]
        exact ⟨none, 0, rfl, Nat.le_refl _, Kd.C_nil _ _, put6_below HB5.out (Nat.le_refl _) evZ none 0⟩
    · have hA : evA ev = ([], 90) := if_neg hok
      rw [hA]
      have HRT := Km (HRR.out.trans (if_neg (fun h => hok h.1)))
      clear hok hA
      go_wp2
      refine rd_close (b := w.heap.size) (e := evZ) (A := none) (c := 0) (code := 90) rfl rfl (put6_ev HR5.out evZ none 0) ?_
      rw [HRT.out]
      exact ⟨none, 0, rfl, Nat.le_refl _, Kd.C_nil _ _, put6_below HB5.out (Nat.le_refl _) evZ none 0⟩

theorem rr_f4 (s : ByteArray) (l : List ByteArray) (m : Nat) (x0 : ByteArray) (hx0 : x0 = l.getD 0 ByteArray.empty) (hm : l.length = m + 1) (hmb : m ≤ 2147483649) (hx : x0 = ⟨#[112, 105, 110]⟩) (w : World) (hE : Env w)
    (hsp : ∀ W, Env W → Calls Tryd.prog 28 #[.string s, .int .u8 32] W (CutPost l m W)) (hm1 : 1 ≤ m) (n : List Int) (hf : ((n.length : Int) == 2) = true) (hk : 2 ≤ n.length) (hnl : n.length ≤ 4294967296) (hnr : ∀ x ∈ n, Rng x) (hrd : ∀ W A2 c2, Kd.C Kd.string W A2 m (l.drop 1) → m ≤ c2 → Calls Tryd.prog 30 #[.slice A2 m c2] W (RdSome n W)) (r : Ev × Int) (ev : Ev) (hev : ev = ⟨4, (n.getD 0 0), (n.getD 1 0), 0, 0, []⟩) (hr : r = if okP ev ∧ evT ev = s.data.toList then (ev, 0) else (evZ, 90)) :
    Calls Tryd.prog 11 #[.string s] w (RdOf r w) := by
  subst hx
  have hB0 := (Below.refl w.heap.size w).alloc (Nat.le_refl _) (.cells (evCells evZ none 0) 24)
  have HE0 := Km (alloc_ev (w := w) rfl evZ none 0)
  have HS := Lib.hid (hsp _ (hE.step hB0))
  have HB0 := Km hB0
  have HE := Km hE
  have HX := Km hx0
  have HM := Km hm
  clear hsp hB0 hE hx0 hm
  have i1 : (0 : Int) < ((m + 1 : Nat) : Int) := by omega
  have HRD := Lib.hid hrd
  clear hrd
  have k0 : (0 : Int) < (n.length : Int) := by omega
  obtain ⟨v0, hv0_⟩ : ∃ v, v = n.getD 0 0 := ⟨_, rfl⟩
  have k1 : (1 : Int) < (n.length : Int) := by omega
  obtain ⟨v1, hv1_⟩ : ∃ v, v = n.getD 1 0 := ⟨_, rfl⟩
  have HVR := Km (show Rng v0 ∧ Rng v1 ∧ True from ⟨(by rw [hv0_]; exact getD_rng hnr 0), (by rw [hv1_]; exact getD_rng hnr 1), trivial⟩)
  replace hev : ev = ⟨4, v0, v1, 0, 0, []⟩ := by rw [hev, hv0_, hv1_]
  have HV := Km (show v0 = n.getD 0 0 ∧ v1 = n.getD 1 0 ∧ True from ⟨hv0_, hv1_, trivial⟩)
  have HK := Km hk
  have HNL := Km hnl
  have HEV := Km hev
  have HRR := Km hr
  clear hk hnl hnr hev hr hv0_ hv1_
  go_enter Tryd.func11, Tryd.ntmps11
  go_wp2_with (go_at_call 28; refine HS.out.mono ?_; rintro x w1 ⟨g, c, rfl, hg, hc, hC, hb1⟩; refine Hid.out ?_)
  refine Lib.hid ?_
  have hB1 := HB0.out.trans (hb1.mono HB0.out.size)
  obtain ⟨ad, e, hc0⟩ := Kd.at_string hC 0 (by omega) i1
  cases e
  replace hc0 : w1.cell? ⟨g, 0, none⟩ = some (.string ⟨#[112, 105, 110]⟩) := hc0.trans (by rw [HX.out]; rfl)
  have hgl := World.block_lt_of_cell? w1 _ hc0
  have HGL := Km hgl
  have HC0 := Km hc0
  have HR1 := Km (ev_below HE0.out hb1)
  have HHC := Km hc
  have HHG := Km hg
  have HC1 := Km (Kd.C_alloc hC (.cells (evCells evZ none 0) 24))
  have HB2 := Km (below_alloc hB1 (.cells (evCells evZ none 0) 24))
  have HR2 := Km (ev_below HR1.out (ba (o := .cells (evCells evZ none 0) 24)))
  have HE2 := Km (alloc_ev (w := w1) rfl evZ none 0)
  clear hB1 hb1 hC HB0 HE0 hg HR1 hc
  have i5 : ¬ c = 1 := by have := HHC.out; omega
  have HCT := Km (show Kd.C Kd.string (w1.alloc (.cells (evCells evZ none 0) 24)) (some ⟨g, 1, none⟩) m (l.drop 1) by
    have h := Kd.C_drop (m := 1) (c := c) (k := Kd.string) (by rw [HM.out]; exact HC1.out) (by rw [HM.out]; omega) (by rw [HM.out]; exact HHC.out)
    rw [if_neg i5, List.length_drop, HM.out] at h
    exact h)
  clear hm1
  go_wp2_with (go_at_call 30; refine (HRD.out _ _ _ HCT.out (by have := HHC.out; omega)).mono ?_; rintro x w2 ⟨A3, c3, rfl, hc3, hC3, hA3, hb2⟩; refine Hid.out ?_)
  refine Lib.hid ?_
  have HR3 := Km (ev_below HR2.out hb2)
  have HE3 := Km (ev_below HE2.out hb2)
  have HB3 := Km (HB2.out.trans (hb2.mono HB2.out.size))
  have hx2 : w2.cell? ⟨g, 0, none⟩ = some (.string ⟨#[112, 105, 110]⟩) := (hb2.cell (p := ⟨g, 0, none⟩) (by rw [World.size_alloc]; have := HGL.out; show g < _; omega)).trans ((Below.cell ba (p := ⟨g, 0, none⟩) HGL.out).trans HC0.out)
  obtain ⟨o0, o1, o2, o3, o4, o5, of_⟩ := ev_cells HE3.out
  dsimp only [evZ] at o0 o1 o2 o3 o4 o5
  have HC3 := Km hC3
  have HA3 := Km hA3
  have HCC := Km hc3
  obtain ⟨a3, rfl, m0⟩ := Kd.at_int hC3 0 (by omega) k0
  obtain ⟨_, e1, m1⟩ := Kd.at_int hC3 1 (by omega) k1
  cases e1
  replace m0 : w2.cell? a3 = some (.int .i64 v0) := Eq.trans m0 (by rw [HV.out.1]; rfl)
  replace m1 : w2.cell? ⟨a3.block, a3.off + 1, none⟩ = some (.int .i64 v1) := Eq.trans m1 (by rw [HV.out.2.1]; rfl)
  clear hb2 hc0 hgl i5 hc3 hC3 hA3
  go_wp2_with (fail)
  go_region
  go_wp2_with (go_at_call 8; refine Hid.out ?_)
  refine Lib.hid ?_
  refine calls_gen ?_
  intro W hW
  have hlt : w.heap.size < w1.heap.size := by have h1 := HHG.out; have h2 := HGL.out; rw [World.size_alloc] at h1; omega
  have hle : w.heap.size ≤ w1.heap.size := Nat.le_of_lt hlt
  have HE4 := Km (show IsEv W w1.heap.size ⟨4, v0, v1, 0, 0, []⟩ none 0 by rw [hW]; exact (ev_below (put6_ev HE3.out ⟨4, v0, v1, 0, 0, []⟩ none 0) (below_drew (Below.refl _ _))))
  have HB4 := Km (show Below w.heap.size w W by rw [hW]; exact (below_drew (put6_below HB3.out hle ⟨4, v0, v1, 0, 0, []⟩ none 0)))
  have hBb : Below w1.heap.size w2 W := by rw [hW]; exact (below_drew (put6_below (Below.refl w1.heap.size w2) (Nat.le_refl _) ⟨4, v0, v1, 0, 0, []⟩ none 0))
  have HR4 := Km (show IsEv W w.heap.size evZ none 0 from (hBb.block _ hlt).trans HR3.out)
  have hea := revent_any ⟨4, v0, v1, 0, 0, []⟩ none 0 W (HE.out.step HB4.out) (by obtain ⟨q0, q1, _⟩ := HVR.out; exact ⟨q0, q1, rng0, rng0, fun _ h => by cases h⟩) (Kd.C_nil _ _) (Nat.le_refl _) (Nat.zero_le _)
  rw [show evA ⟨4, v0, v1, 0, 0, []⟩ = evA ev from by rw [HEV.out]] at hea
  have HEA := Lib.hid hea
  clear hW hBb hea o0 o1 o2 o3 o4 o5 of_ m0 m1 hx2
  refine Calls.mono HEA.out ?_
  rintro x w4 ⟨rfl, hb4⟩
  have HR5 := Km (ev_below HR4.out hb4)
  have HE5 := Km (ev_below HE4.out hb4)
  have HB5 := Km (HB4.out.trans (hb4.mono HB4.out.size))
  clear hb4
  obtain ⟨r0, r1, r2, r3, r4, r5, rf⟩ := ev_cells HR5.out
  obtain ⟨o0, o1, o2, o3, o4, o5, of_⟩ := ev_cells HE5.out
  (try dsimp only at o0 o1 o2 o3 o4 o5)
  by_cases hok : okP ev
  · have hA : evA ev = (evT ev, 0) := if_pos hok
    rw [hA]
    by_cases heq : evT ev = s.data.toList
    · have hbe : ((ofL (evT ev)).toList == s.toList) = true := by rw [beq_iff_eq, toList_data, toList_data, data_ofL]; exact heq
      have HRT := Km (HRR.out.trans (if_pos ⟨hok, heq⟩))
      clear hok hA heq
      go_wp2
      refine rd_close (b := w.heap.size) (e := ⟨4, v0, v1, 0, 0, []⟩) (A := none) (c := 0) (code := 0) rfl rfl (put6_ev HR5.out ⟨4, v0, v1, 0, 0, []⟩ none 0) ?_
      rw [HRT.out, HEV.out]
      have hBf := put6_below HB5.out (Nat.le_refl _) ⟨4, v0, v1, 0, 0, []⟩ none 0
      exact ⟨none, 0, rfl, (Nat.le_refl _), Kd.C_nil _ _, hBf⟩
    · have hbe : ((ofL (evT ev)).toList == s.toList) = false := by rw [beq_eq_false_iff_ne, toList_data, toList_data, data_ofL]; exact heq
      have HRT := Km (HRR.out.trans (if_neg (fun h => heq h.2)))
      clear hok hA heq
      go_wp2
      refine rd_close (b := w.heap.size) (e := evZ) (A := none) (c := 0) (code := 90) rfl rfl (put6_ev HR5.out evZ none 0) ?_
      rw [HRT.out]
      exact ⟨none, 0, rfl, Nat.le_refl _, Kd.C_nil _ _, put6_below HB5.out (Nat.le_refl _) evZ none 0⟩
  · have hA : evA ev = ([], 90) := if_neg hok
    rw [hA]
    have HRT := Km (HRR.out.trans (if_neg (fun h => hok h.1)))
    clear hok hA
    go_wp2
    refine rd_close (b := w.heap.size) (e := evZ) (A := none) (c := 0) (code := 90) rfl rfl (put6_ev HR5.out evZ none 0) ?_
    rw [HRT.out]
    exact ⟨none, 0, rfl, Nat.le_refl _, Kd.C_nil _ _, put6_below HB5.out (Nat.le_refl _) evZ none 0⟩

end Go.Proofs.YtokioddaonknpaaDoor.A
