/- Own text, merged (merge.py): Parse at the document's example; shown. -/
import Derived.Lib.OthersKept
import Derived.Test.YtokioddaonknpaaDoorGA

namespace Go.Proofs.YtokioddaonknpaaDoor.A
open Go.RowKit Go.Proofs.YtokioddaonknpaaDoorW.PrintWords Go.Proofs.YtokioddaonknpaaDoor.PAnswersReads
set_option linter.unusedSimpArgs false
set_option linter.unusedVariables false

theorem wpl_gen {ops : Array Oper} {Q : Exit → Act → World → Prop} {rest : List Oper} {a : Act} {w0 : World} (h : ∀ W, W = w0 → wpList Tryd.prog ops Q rest a W) : wpList Tryd.prog ops Q rest a w0 := h w0 rfl
theorem ans_free {w : World} {b : Nat} (h : IsAns w b 0 0) : IsAns (w.setCell ⟨b, 15, none⟩ (.int .i64 3)) b 3 0 := by
  have := blk_set h 15 (.int .i64 3)
  unfold IsAns
  rw [this]
  rfl
theorem close_own {R : Ending → World → Prop} {w' : World} {b : Nat} {fr ho : Int} {a : Act} (hd : a.defers = []) (hp : a.tmps[4]?.getD undef = .pointer (some ⟨b, 0, none⟩)) (hA : IsAns w' b fr ho)
    (hR : R (.returned (.agg (aC fr ho))) w') : bodyPost Tryd.prog Tryd.f53 R .ret a w' := by
  refine bodyPost_ret (v := .agg (aC fr ho)) ?_ hd hR
  have hl := run_loadVar_mid w' b 0 42 (aC fr ho).toList _ (rng_ans hA) Tryd.underlying42 rfl info42
  simp only [results, Tryd.results53]
  simp [hp, hl, asAddr]

set_option maxHeartbeats 8000000 in
set_option maxRecDepth 100000 in
theorem own_12 (w : World) : Calls Tryd.prog 53 #[.int .i64 12, .agg #[.int .i64 0, .int .i64 0, .slice none 0 0, .int .i64 0, .int .i64 0, .int .i64 0, .int .i64 0, .int .i64 0, .int .i64 0, .int .i64 0, .slice none 0 0, .slice none 0 0, .int .i64 0, .int .u64 0, .int .u64 0, .int .i64 3, .int .i64 0, .int .i64 0, .int .i64 0, .int .i64 0, .int .i64 0, .int .i64 0, .int .i64 0, .int .i64 0, .int .i64 0, .int .i64 0, .int .i64 0]] w fun e w' => e = .returned (.agg (aC 3 0)) ∧ Below w.heap.size w w' := by
  have HN := Lib.hid (fun W => has_no 12 rfl rfl rfl rfl W)
  have HA0 := Aside0.mk (show IsAns (((w.alloc (.cells (aC 3 0) 42)).alloc (.cells (aC 0 0) 42)).alloc (.cells (aC 0 0) 42)) w.heap.size 3 0 from ans_below (ans_below (alloc_ans (w := w) rfl 3 0) ((Below.refl _ _).alloc (Nat.le_refl _) (.cells (aC 0 0) 42))) ((Below.refl _ _).alloc (Nat.le_refl _) (.cells (aC 0 0) 42)))
  have HR0 := Aside0.mk (show IsAns (((w.alloc (.cells (aC 3 0) 42)).alloc (.cells (aC 0 0) 42)).alloc (.cells (aC 0 0) 42)) (w.heap.size + 1) 0 0 from ans_below (alloc_ans (w := w.alloc (.cells (aC 3 0) 42)) (by simp) 0 0) ((Below.refl _ _).alloc (Nat.le_refl _) (.cells (aC 0 0) 42)))
  have HO0 := Aside0.mk (show IsAns (((w.alloc (.cells (aC 3 0) 42)).alloc (.cells (aC 0 0) 42)).alloc (.cells (aC 0 0) 42)) (w.heap.size + 1 + 1) 0 0 from alloc_ans (w := (w.alloc (.cells (aC 3 0) 42)).alloc (.cells (aC 0 0) 42)) (by simp) 0 0)
  have HB0 := Aside0.mk (show Below w.heap.size w (((w.alloc (.cells (aC 3 0) 42)).alloc (.cells (aC 0 0) 42)).alloc (.cells (aC 0 0) 42)) from below_alloc (below_alloc (below_alloc (Below.refl w.heap.size w) _) _) _)
  go_enter Tryd.func53, Tryd.ntmps53
  go_wp2_with (first | (refine wpList_store_mid ?hg 42 (.tmp 5) (.tmp 6) ?ho (w.heap.size + 1 + 1) 0 (aC 0 0) ?hx ?hy ?ht info42 (one_ans _ _) ?_; (case ho => with_reducible rfl); (case hg => rfl); (case hx => rfl); (case hy => rfl); (case ht => exact there_ans HO0.out); refine Hid.out ?_))
  refine Lib.hid ?_
  refine wpl_gen ?_
  intro W hW
  have hbs : Below (w.heap.size + 1 + 1) (((w.alloc (.cells (aC 3 0) 42)).alloc (.cells (aC 0 0) 42)).alloc (.cells (aC 0 0) 42)) W := by rw [hW]; exact setc_below (Below.refl _ _) (Nat.le_refl _) _
  have HA := Aside0.mk (show IsAns W w.heap.size 3 0 from (hbs.block _ (by omega)).trans HA0.out)
  have HR := Aside0.mk (show IsAns W (w.heap.size + 1) 0 0 from (hbs.block _ (by omega)).trans HR0.out)
  have HO := Aside0.mk (show IsAns W (w.heap.size + 1 + 1) 0 0 by rw [hW]; exact setc_ans HO0.out 0 0)
  have HB := Aside0.mk (HB0.out.trans (hbs.mono (by omega)))
  clear hW hbs HA0 HR0 HO0 HB0
  obtain ⟨a0, _, _, _, _, _, _, _, _, _, _, _, _, _, _, a15, _, _, _, _, _, _, _, _, _, _, _, _⟩ := ans_cells HA.out
  obtain ⟨_, _, _, _, _, _, _, _, _, _, _, _, _, _, _, o15, _, _, _, _, _, _, _, _, _, _, _, of_⟩ := ans_cells HO.out
  have HO2 := Aside0.mk (ans_free HO.out)
  have hbs : Below (w.heap.size + 1 + 1) W (W.setCell ⟨w.heap.size + 1 + 1, 15, none⟩ (.int .i64 3)) := (Below.refl _ W).setCell (p := ⟨w.heap.size + 1 + 1, 15, none⟩) (Nat.le_refl _) _
  have HR2 := Aside0.mk (show IsAns (W.setCell ⟨w.heap.size + 1 + 1, 15, none⟩ (.int .i64 3)) (w.heap.size + 1) 0 0 from (hbs.block _ (by omega)).trans HR.out)
  have HB2 := Aside0.mk (HB.out.trans (hbs.mono (by omega)))
  clear hbs
  go_wp2_with (first
    | (go_at_call 36; refine (HN.out _).mono ?_; rintro x w1 ⟨rfl, rfl⟩)
    | (refine wpList_load_mid ?hg 42 (.tmp 5) ?ho (w.heap.size + 1 + 1) 0 ?hx (aC 3 0).toList _ ?hc Tryd.underlying42 ?hd info42 ?_; (case ho => with_reducible rfl); (case hg => rfl); (case hx => rfl); (case hd => rfl); (case hc => exact rng_ans HO2.out))
    | (refine wpList_store_mid ?hg 42 (.tmp 4) (.tmp 59) ?ho (w.heap.size + 1) 0 (aC 3 0) ?hx ?hy ?ht info42 (one_ans _ _) ?_; (case ho => with_reducible rfl); (case hg => rfl); (case hx => rfl); (case hy => rfl); (case ht => exact there_ans HR2.out)))
  exact close_own (b := w.heap.size + 1) rfl rfl (setc_ans HR2.out 3 0) ⟨rfl, setc_below HB2.out (by omega) _⟩

end Go.Proofs.YtokioddaonknpaaDoor.A

namespace Go.Proofs.YtokioddaonknpaaDoor.A
open Go.RowKit Go.Proofs.YtokioddaonknpaaDoorW.PrintWords Go.Proofs.YtokioddaonknpaaDoor.PAnswersReads
set_option linter.unusedSimpArgs false
set_option linter.unusedVariables false

theorem close_own2 {R : Ending → World → Prop} {w' : World} {b : Nat} {fr ho : Int} {a : Act} (hd : a.defers = []) (hp : a.tmps[4]?.getD undef = .pointer (some ⟨b, 0, none⟩)) (hA : IsAns w' b fr ho)
    (hR : R (.returned (.agg (aC fr ho))) w') : bodyPost Tryd.prog Tryd.f37 R .ret a w' := by
  refine bodyPost_ret (v := .agg (aC fr ho)) ?_ hd hR
  have hl := run_loadVar_mid w' b 0 42 (aC fr ho).toList _ (rng_ans hA) Tryd.underlying42 rfl info42
  simp only [results, Tryd.results37]
  simp [hp, hl, asAddr]

theorem ans_set {w : World} {b : Nat} (h : IsAns w b 3 0) : IsAns (w.setCell ⟨b, 10, none⟩ (.slice none 0 0)) b 3 0 := by
  have := blk_set h 10 (.slice none 0 0)
  unfold IsAns
  rw [this]
  rfl
set_option maxHeartbeats 8000000 in
set_option maxRecDepth 100000 in
theorem own2_12 (w : World) : Calls Tryd.prog 37 #[.int .i64 12, .agg #[.int .i64 0, .int .i64 0, .slice none 0 0, .int .i64 0, .int .i64 0, .int .i64 0, .int .i64 0, .int .i64 0, .int .i64 0, .int .i64 0, .slice none 0 0, .slice none 0 0, .int .i64 0, .int .u64 0, .int .u64 0, .int .i64 3, .int .i64 0, .int .i64 0, .int .i64 0, .int .i64 0, .int .i64 0, .int .i64 0, .int .i64 0, .int .i64 0, .int .i64 0, .int .i64 0, .int .i64 0]] w fun e w' => e = .returned (.agg (aC 3 0)) ∧ Below w.heap.size w w' := by
  have HN := Lib.hid (fun W => own_12 W)
  have HCL := Lib.hid (fun W => Tryd.slices_Clone_int_nil 0 0 W)
  have HA0 := Aside0.mk (show IsAns ((w.alloc (.cells (aC 3 0) 42)).alloc (.cells (aC 0 0) 42)) w.heap.size 3 0 from ans_below (alloc_ans (w := w) rfl 3 0) ((Below.refl _ _).alloc (Nat.le_refl _) (.cells (aC 0 0) 42)))
  have HR0 := Aside0.mk (show IsAns ((w.alloc (.cells (aC 3 0) 42)).alloc (.cells (aC 0 0) 42)) (w.heap.size + 1) 0 0 from alloc_ans (w := w.alloc (.cells (aC 3 0) 42)) (by simp) 0 0)
  have HB0 := Aside0.mk (show Below w.heap.size w ((w.alloc (.cells (aC 3 0) 42)).alloc (.cells (aC 0 0) 42)) from below_alloc (below_alloc (Below.refl w.heap.size w) _) _)
  go_enter Tryd.func37, Tryd.ntmps37
  go_wp2_with (first
    | (refine wpList_load_mid ?hg 42 (.tmp 3) ?ho (w.heap.size) 0 ?hx (aC 3 0).toList _ ?hc Tryd.underlying42 ?hd info42 ?_; (case ho => with_reducible rfl); (case hg => rfl); (case hx => rfl); (case hd => rfl); (case hc => exact rng_ans HA0.out))
    | (go_at_call 53; refine (HN.out _).mono ?_; rintro x w1 ⟨rfl, hb1⟩; refine Hid.out ?_))
  refine Lib.hid ?_
  have hlt := blk_lt (ans_below HR0.out hb1)
  have HR1 := Aside0.mk (ans_below (ans_below HR0.out hb1) ((Below.refl _ _).alloc (Nat.le_refl _) (.cells (aC 0 0) 42)))
  have HB1 := Aside0.mk (below_alloc (HB0.out.trans (hb1.mono HB0.out.size)) (.cells (aC 0 0) 42))
  have HO1 := Aside0.mk (alloc_ans (w := w1) rfl 0 0)
  clear hb1 HA0 HR0 HB0
  go_wp2_with (first | (refine wpList_store_mid ?hg 42 (.tmp 5) (.tmp 14) ?ho (w1.heap.size) 0 (aC 3 0) ?hx ?hy ?ht info42 (one_ans _ _) ?_; (case ho => with_reducible rfl); (case hg => rfl); (case hx => rfl); (case hy => rfl); (case ht => exact there_ans HO1.out); refine Hid.out ?_))
  refine Lib.hid ?_
  refine wpl_gen ?_
  intro W hW
  have hbs : Below w1.heap.size (w1.alloc (.cells (aC 0 0) 42)) W := by rw [hW]; exact setc_below (Below.refl _ _) (Nat.le_refl _) _
  have HR := Aside0.mk (show IsAns W (w.heap.size + 1) 0 0 from (hbs.block _ hlt).trans HR1.out)
  have HO := Aside0.mk (show IsAns W w1.heap.size 3 0 by rw [hW]; exact setc_ans HO1.out 3 0)
  have HB := Aside0.mk (HB1.out.trans (hbs.mono (by omega)))
  clear hW hbs HR1 HO1 HB1
  obtain ⟨_, _, _, _, _, _, _, _, _, _, o10, _, _, _, _, _, _, _, _, _, _, _, _, _, _, _, _, of_⟩ := ans_cells HO.out
  have HO2 := Aside0.mk (ans_set HO.out)
  have hbs : Below w1.heap.size W (W.setCell ⟨w1.heap.size, 10, none⟩ (.slice none 0 0)) := (Below.refl _ W).setCell (p := ⟨w1.heap.size, 10, none⟩) (Nat.le_refl _) _
  have HR2 := Aside0.mk (show IsAns (W.setCell ⟨w1.heap.size, 10, none⟩ (.slice none 0 0)) (w.heap.size + 1) 0 0 from (hbs.block _ hlt).trans HR.out)
  have HB2 := Aside0.mk (HB.out.trans (hbs.mono (by omega)))
  clear hbs
  go_wp2_with (first
    | (go_at_call 54; refine (HCL.out _).mono ?_; rintro x wz ⟨rfl, rfl⟩)
    | (refine wpList_load_mid ?hg 42 (.tmp 5) ?ho (w1.heap.size) 0 ?hx (aC 3 0).toList _ ?hc Tryd.underlying42 ?hd info42 ?_; (case ho => with_reducible rfl); (case hg => rfl); (case hx => rfl); (case hd => rfl); (case hc => exact rng_ans HO2.out))
    | (refine wpList_store_mid ?hg 42 (.tmp 4) (.tmp 21) ?ho (w.heap.size + 1) 0 (aC 3 0) ?hx ?hy ?ht info42 (one_ans _ _) ?_; (case ho => with_reducible rfl); (case hg => rfl); (case hx => rfl); (case hy => rfl); (case ht => exact there_ans HR2.out)))
  exact close_own2 (b := w.heap.size + 1) rfl rfl (setc_ans HR2.out 3 0) ⟨rfl, setc_below HB2.out (by omega) _⟩

end Go.Proofs.YtokioddaonknpaaDoor.A

namespace Go.Proofs.YtokioddaonknpaaDoor.A
open Go.RowKit Go.Proofs.YtokioddaonknpaaDoorW.PrintWords Go.Proofs.YtokioddaonknpaaDoor.PAnswersReads
set_option linter.unusedSimpArgs false
set_option linter.unusedVariables false

theorem close_head {R : Ending → World → Prop} {w' : World} {b : Nat} {fr ho : Int} {a : Act} (hd : a.defers = []) (hp : a.tmps[4]?.getD undef = .pointer (some ⟨b, 0, none⟩)) (hA : IsAns w' b fr ho)
    (hR : R (.returned (.agg (aC fr ho))) w') : bodyPost Tryd.prog Tryd.f35 R .ret a w' := by
  refine bodyPost_ret (v := .agg (aC fr ho)) ?_ hd hR
  have hl := run_loadVar_mid w' b 0 42 (aC fr ho).toList _ (rng_ans hA) Tryd.underlying42 rfl info42
  simp only [results, Tryd.results35]
  simp [hp, hl, asAddr]

set_option maxHeartbeats 8000000 in
set_option maxRecDepth 100000 in
theorem head_12 (g : Nat) (w : World) (hE : Env w) (hC : Kd.C Kd.string w (some ⟨g, 0, none⟩) 2 [ofL [102, 114, 101, 101], ofL [51]]) : Calls Tryd.prog 35 #[.int .i64 12, .slice (some ⟨g, 0, none⟩) 2 2] w fun e w' => e = .returned (.agg (aC 3 0)) ∧ Below w.heap.size w w' := by
  have HR0 := Aside0.mk (show IsAns ((w.alloc (.cells (aC 0 0) 42)).alloc (.cells (aC 0 0) 42)) w.heap.size 0 0 from ans_below (alloc_ans (w := w) rfl 0 0) ((Below.refl _ _).alloc (Nat.le_refl _) (.cells (aC 0 0) 42)))
  have HO0 := Aside0.mk (show IsAns ((w.alloc (.cells (aC 0 0) 42)).alloc (.cells (aC 0 0) 42)) (w.heap.size + 1) 0 0 from alloc_ans (w := w.alloc (.cells (aC 0 0) 42)) (by simp) 0 0)
  have HB0 := Aside0.mk (show Below w.heap.size w ((w.alloc (.cells (aC 0 0) 42)).alloc (.cells (aC 0 0) 42)) from below_alloc (below_alloc (Below.refl w.heap.size w) _) _)
  have HC := Aside0.mk hC
  have HE := Aside0.mk hE
  clear hC hE
  go_enter Tryd.func35, Tryd.ntmps35
  go_wp2_with (first | (refine wpList_store_mid ?hg 42 (.tmp 5) (.tmp 12) ?ho (w.heap.size + 1) 0 (aC 0 0) ?hx ?hy ?ht info42 (one_ans _ _) ?_; (case ho => with_reducible rfl); (case hg => rfl); (case hx => rfl); (case hy => rfl); (case ht => exact there_ans HO0.out); refine Hid.out ?_))
  refine Lib.hid ?_
  refine wpl_gen ?_
  intro W hW
  have hbs : Below (w.heap.size + 1) ((w.alloc (.cells (aC 0 0) 42)).alloc (.cells (aC 0 0) 42)) W := by rw [hW]; exact setc_below (Below.refl _ _) (Nat.le_refl _) _
  have HR := Aside0.mk (show IsAns W w.heap.size 0 0 from (hbs.block _ (by omega)).trans HR0.out)
  have HO := Aside0.mk (show IsAns W (w.heap.size + 1) 0 0 by rw [hW]; exact setc_ans HO0.out 0 0)
  have HB := Aside0.mk (HB0.out.trans (hbs.mono (by omega)))
  clear hW hbs HR0 HO0 HB0
  have HCW := Aside0.mk (Kd.C_below HC.out HB.out)
  have HEW := Aside0.mk (HE.out.step HB.out)
  obtain ⟨_, e0, x0⟩ := Kd.at_string HCW.out 0 (by omega) (by decide)
  cases e0
  replace x0 : W.cell? ⟨g, 0, none⟩ = some (.string ⟨#[102, 114, 101, 101]⟩) := x0
  have HT := Aside0.mk (show Kd.C Kd.string W (some ⟨g, 1, none⟩) 1 [ofL [51]] from by
    have h := Kd.C_drop (m := 1) (c := 2) (k := Kd.string) HCW.out (by decide) (Nat.le_refl _)
    exact h)
  have hrd := reads_any (some ⟨g, 1, none⟩) 1 [ofL [51]] W HEW.out HT.out (Nat.le_refl _) (by decide) (by intro x hx; simp at hx; subst hx; decide)
  have hcn : canons (dat [ofL [51]]) = some [3] := by decide +kernel
  rw [hcn] at hrd
  have HRD := Lib.hid (show Calls Tryd.prog 26 #[.slice (some ⟨g, 1, none⟩) 1 1] W (fun e w' => ∃ v, e = .returned (.tuple #[v, .bool true]) ∧ Kd.R (Kd.int .i64) 3 w' W.heap.size (fun _ => True) v [3] ∧ Below W.heap.size W w') from hrd.mono fun e w' h => by
    rcases h with ⟨n, v, h, he, hR, hb⟩ | ⟨h, _⟩
    · injection h with h
      subst h
      exact ⟨v, he, hR, hb⟩
    · cases h)
  clear hrd hcn
  go_wp2_with (go_at_call 26; refine HRD.out.mono ?_; rintro x w2 ⟨v, rfl, hR2, hb2⟩; refine Hid.out ?_)
  refine Lib.hid ?_
  have hs2 := hb2.size
  have HR2 := Aside0.mk hR2
  have HB2 := Aside0.mk hb2
  clear hR2 hb2 x0
  go_wp2_with (at_builtin; refine Kd.R_append_zeros (Kd.int .i64) (w0 := W) W.heap.size rfl (.tmp 78) (.const (.int .i64 10)) 22 3 3 (.int .i64 0) 8 rfl Tryd.underlying22 Tryd.underlying3 infoI rfl (by decide) (by decide) v [3] 0 10 (fun _ => True) rfl rfl rfl (fun _ _ => trivial) HR2.out (by decide) HB2.out hs2 (by decide) ?_; intro v1 w3 ho3 hb3 _ _; refine Hid.out ?_)
  refine Lib.hid ?_
  obtain ⟨A1, c1, hv1⟩ := Kd.R_slice ho3
  replace hv1 : v1 = .slice A1 11 c1 := hv1
  subst hv1
  obtain ⟨a1, rfl, y0⟩ := Kd.at_int (n := 11) (Kd.R_reads' ho3).2.2 0 (by omega) (by decide)
  replace y0 : w3.cell? a1 = some (.int .i64 3) := y0
  have hlO := blk_lt HO.out
  have HO3 := Aside0.mk (show IsAns w3 (w.heap.size + 1) 0 0 from (hb3.block _ hlO).trans HO.out)
  have HR3 := Aside0.mk (show IsAns w3 w.heap.size 0 0 from (hb3.block _ (by omega)).trans HR.out)
  have HB3 := Aside0.mk (HB.out.trans (hb3.mono HB.out.size))
  have HF := Aside0.mk ho3
  clear ho3 hb3 hs2 hlO
  obtain ⟨_, _, _, _, _, _, _, _, _, _, _, _, _, _, _, o15, _, _, _, _, _, _, _, _, _, _, _, of_⟩ := ans_cells HO3.out
  have HO4 := Aside0.mk (ans_free HO3.out)
  have hbs : Below (w.heap.size + 1) w3 (w3.setCell ⟨w.heap.size + 1, 15, none⟩ (.int .i64 3)) := (Below.refl _ w3).setCell (p := ⟨w.heap.size + 1, 15, none⟩) (Nat.le_refl _) _
  have HR4 := Aside0.mk (show IsAns (w3.setCell ⟨w.heap.size + 1, 15, none⟩ (.int .i64 3)) w.heap.size 0 0 from (hbs.block _ (by omega)).trans HR3.out)
  have HB4 := Aside0.mk (HB3.out.trans (hbs.mono (by omega)))
  clear hbs
  go_wp2_with (first
    | (refine wpList_load_mid ?hg 42 (.tmp 5) ?ho (w.heap.size + 1) 0 ?hx (aC 3 0).toList _ ?hc Tryd.underlying42 ?hd info42 ?_; (case ho => with_reducible rfl); (case hg => rfl); (case hx => rfl); (case hd => rfl); (case hc => exact rng_ans HO4.out))
    | (refine wpList_store_mid ?hg 42 (.tmp 4) (.tmp 176) ?ho (w.heap.size) 0 (aC 3 0) ?hx ?hy ?ht info42 (one_ans _ _) ?_; (case ho => with_reducible rfl); (case hg => rfl); (case hx => rfl); (case hy => rfl); (case ht => exact there_ans HR4.out)))
  exact close_head (b := w.heap.size) rfl rfl (setc_ans HR4.out 3 0) ⟨rfl, setc_below HB4.out (Nat.le_refl _) _⟩

end Go.Proofs.YtokioddaonknpaaDoor.A

namespace Go.Proofs.YtokioddaonknpaaDoor.A
open Go.RowKit Go.Proofs.YtokioddaonknpaaDoorW.PrintWords Go.Proofs.YtokioddaonknpaaDoor.PAnswersReads
set_option linter.unusedSimpArgs false
set_option linter.unusedVariables false

set_option maxHeartbeats 8000000 in
set_option maxRecDepth 100000 in
theorem lines_free (w : World) : Calls Tryd.prog 34 #[.string ⟨#[102, 114, 101, 101, 32, 51, 10]⟩] w fun e w' => (∃ g c, e = .returned (.tuple #[.slice (some ⟨g, 0, none⟩) 1 c, .bool true]) ∧ w.heap.size ≤ g ∧ 1 ≤ c ∧ Kd.C Kd.string w' (some ⟨g, 0, none⟩) 1 [ofL [102, 114, 101, 101, 32, 51]]) ∧ Below w.heap.size w w' := by
  go_enter Tryd.func34, Tryd.ntmps34
  go_wp2
  go_loopw [4, 5] (fun ov fv wr => (∃ pos : Nat, pos ≤ 6 ∧ ov = .slice none 0 0 ∧ fv = .int .i64 0 ∧ wr = w.iter (⟨#[102, 114, 101, 101, 32, 51, 10]⟩ : ByteArray) pos) ∨ (fv = .int .i64 7 ∧ Aside0 (Kd.R Kd.string 9 wr w.heap.size (fun _ => True) ov [ofL [102, 114, 101, 101, 32, 51]]) ∧ Aside0 (wr.heap[w.heap.size]? = some (.stringIter (⟨#[102, 114, 101, 101, 32, 51, 10]⟩ : ByteArray) 7)) ∧ Aside0 (Below w.heap.size w wr))) (fun _ _ wr => 8 - wr.iterPos w.heap.size)
  case atStart => exact .inl ⟨0, by decide, rfl, rfl, rfl⟩
  case round =>
    rcases hrel with ⟨pos, hpos, rfl, rfl, rfl⟩ | ⟨rfl, hO, hI, hB⟩
    · have hp : pos = 0 ∨ pos = 1 ∨ pos = 2 ∨ pos = 3 ∨ pos = 4 ∨ pos = 5 ∨ pos = 6 := by omega
      rcases hp with rfl | rfl | rfl | rfl | rfl | rfl | rfl
      · have hnx : ∀ ty, (Instr.next (.pointer (some ⟨w.heap.size, 0, none⟩)) true ty).run Tryd.prog (w.iter (⟨#[102, 114, 101, 101, 32, 51, 10]⟩ : ByteArray) 0) = .ok (.tuple #[.bool true, .int .i64 0, .int .i32 102]) (w.iter (⟨#[102, 114, 101, 101, 32, 51, 10]⟩ : ByteArray) 1) := fun ty => run_next_ascii (P := Tryd.prog) w (⟨#[102, 114, 101, 101, 32, 51, 10]⟩ : ByteArray) 0 ty (by decide) (by decide)
        go_wp2
        go_roundw
        case rel => exact .inl ⟨1, by decide, rfl, rfl, rfl⟩
        case measure => simp
      · have hnx : ∀ ty, (Instr.next (.pointer (some ⟨w.heap.size, 0, none⟩)) true ty).run Tryd.prog (w.iter (⟨#[102, 114, 101, 101, 32, 51, 10]⟩ : ByteArray) 1) = .ok (.tuple #[.bool true, .int .i64 1, .int .i32 114]) (w.iter (⟨#[102, 114, 101, 101, 32, 51, 10]⟩ : ByteArray) 2) := fun ty => run_next_ascii (P := Tryd.prog) w (⟨#[102, 114, 101, 101, 32, 51, 10]⟩ : ByteArray) 1 ty (by decide) (by decide)
        go_wp2
        go_roundw
        case rel => exact .inl ⟨2, by decide, rfl, rfl, rfl⟩
        case measure => simp
      · have hnx : ∀ ty, (Instr.next (.pointer (some ⟨w.heap.size, 0, none⟩)) true ty).run Tryd.prog (w.iter (⟨#[102, 114, 101, 101, 32, 51, 10]⟩ : ByteArray) 2) = .ok (.tuple #[.bool true, .int .i64 2, .int .i32 101]) (w.iter (⟨#[102, 114, 101, 101, 32, 51, 10]⟩ : ByteArray) 3) := fun ty => run_next_ascii (P := Tryd.prog) w (⟨#[102, 114, 101, 101, 32, 51, 10]⟩ : ByteArray) 2 ty (by decide) (by decide)
        go_wp2
        go_roundw
        case rel => exact .inl ⟨3, by decide, rfl, rfl, rfl⟩
        case measure => simp
      · have hnx : ∀ ty, (Instr.next (.pointer (some ⟨w.heap.size, 0, none⟩)) true ty).run Tryd.prog (w.iter (⟨#[102, 114, 101, 101, 32, 51, 10]⟩ : ByteArray) 3) = .ok (.tuple #[.bool true, .int .i64 3, .int .i32 101]) (w.iter (⟨#[102, 114, 101, 101, 32, 51, 10]⟩ : ByteArray) 4) := fun ty => run_next_ascii (P := Tryd.prog) w (⟨#[102, 114, 101, 101, 32, 51, 10]⟩ : ByteArray) 3 ty (by decide) (by decide)
        go_wp2
        go_roundw
        case rel => exact .inl ⟨4, by decide, rfl, rfl, rfl⟩
        case measure => simp
      · have hnx : ∀ ty, (Instr.next (.pointer (some ⟨w.heap.size, 0, none⟩)) true ty).run Tryd.prog (w.iter (⟨#[102, 114, 101, 101, 32, 51, 10]⟩ : ByteArray) 4) = .ok (.tuple #[.bool true, .int .i64 4, .int .i32 32]) (w.iter (⟨#[102, 114, 101, 101, 32, 51, 10]⟩ : ByteArray) 5) := fun ty => run_next_ascii (P := Tryd.prog) w (⟨#[102, 114, 101, 101, 32, 51, 10]⟩ : ByteArray) 4 ty (by decide) (by decide)
        go_wp2
        go_roundw
        case rel => exact .inl ⟨5, by decide, rfl, rfl, rfl⟩
        case measure => simp
      · have hnx : ∀ ty, (Instr.next (.pointer (some ⟨w.heap.size, 0, none⟩)) true ty).run Tryd.prog (w.iter (⟨#[102, 114, 101, 101, 32, 51, 10]⟩ : ByteArray) 5) = .ok (.tuple #[.bool true, .int .i64 5, .int .i32 51]) (w.iter (⟨#[102, 114, 101, 101, 32, 51, 10]⟩ : ByteArray) 6) := fun ty => run_next_ascii (P := Tryd.prog) w (⟨#[102, 114, 101, 101, 32, 51, 10]⟩ : ByteArray) 5 ty (by decide) (by decide)
        go_wp2
        go_roundw
        case rel => exact .inl ⟨6, by decide, rfl, rfl, rfl⟩
        case measure => simp
      · have hnx : ∀ ty, (Instr.next (.pointer (some ⟨w.heap.size, 0, none⟩)) true ty).run Tryd.prog (w.iter (⟨#[102, 114, 101, 101, 32, 51, 10]⟩ : ByteArray) 6) = .ok (.tuple #[.bool true, .int .i64 6, .int .i32 10]) (w.iter (⟨#[102, 114, 101, 101, 32, 51, 10]⟩ : ByteArray) 7) := fun ty => run_next_ascii (P := Tryd.prog) w (⟨#[102, 114, 101, 101, 32, 51, 10]⟩ : ByteArray) 6 ty (by decide) (by decide)
        go_wp2_with (at_builtin; refine Kd.R_append Kd.string (w0 := w) w.heap.size rfl (.tmp 16) (.tmp 21) 52 9 (.string ⟨#[]⟩) 16 rfl Tryd.underlying52 infoS rfl (by decide) (by omega) (.slice none 0 0) [] (ofL [102, 114, 101, 101, 32, 51]) [.string (ofL [102, 114, 101, 101, 32, 51])] (fun _ => True) (fun _ => False) rfl ?aX ?aP (fun _ hk => hk.elim) ?aF ?aO ?aB ?aS ?aL ?_; (case aX => (first | rfl | (go_simp; done) | (go_simp; rfl))); (case aP => exact rfl); (case aF => exact (fun _ _ => trivial)); (case aO => exact Kd.R_nil _ _ _ _ _); (case aB => exact below_alloc (Below.refl w.heap.size w) _); (case aS => simp [World.iter]); (case aL => decide); intro v7 w7 ho7 hb7 hg7 hat7)
        go_roundw
        case rel => exact .inr ⟨rfl, ⟨ho7⟩, ⟨blk_grown (World.iter_heap w (⟨#[102, 114, 101, 101, 32, 51, 10]⟩ : ByteArray) 7) hg7 (by simp [Value.ownBlock])⟩, ⟨hb7⟩⟩
        case measure => have hit := blk_grown (World.iter_heap w (⟨#[102, 114, 101, 101, 32, 51, 10]⟩ : ByteArray) 7) hg7 (by simp [Value.ownBlock]); have hi0 := World.iter_heap w (⟨#[102, 114, 101, 101, 32, 51, 10]⟩ : ByteArray) 6; simp [World.iterPos, hit, hi0]
    · have hnx : ∀ ty, (Instr.next (.pointer (some ⟨w.heap.size, 0, none⟩)) true ty).run Tryd.prog wr = .ok (.tuple #[.bool false]) wr := fun ty => Lib.run_next_end_at wr w.heap.size (⟨#[102, 114, 101, 101, 32, 51, 10]⟩ : ByteArray) 7 ty hI.out (by decide)
      obtain ⟨g, cap, rfl, hg, _⟩ := Kd.R_form hO.out (by decide)
      obtain ⟨_, hcap, hC⟩ := Kd.R_reads' hO.out
      have HC := Aside0.mk hC
      have HB := Aside0.mk hB.out
      clear hC hB hO hI
      go_wp2
      go_ret2
      exact ⟨⟨g, cap, rfl, hg, hcap, HC.out⟩, HB.out⟩

end Go.Proofs.YtokioddaonknpaaDoor.A

namespace Go.Proofs.YtokioddaonknpaaDoor.A
open Go.RowKit Go.Proofs.YtokioddaonknpaaDoorW.PrintWords Go.Proofs.YtokioddaonknpaaDoor.PAnswersReads
set_option linter.unusedSimpArgs false
set_option linter.unusedVariables false

theorem close_parse {R : Ending → World → Prop} {w' : World} {b : Nat} {fr ho c : Int} {a : Act} (hd : a.defers = []) (hp : a.tmps[4]?.getD undef = .pointer (some ⟨b, 0, none⟩)) (hc : a.tmps[5]?.getD undef = .int .i64 c) (hA : IsAns w' b fr ho)
    (hR : R (.returned (.tuple #[.agg (aC fr ho), .int .i64 c])) w') : bodyPost Tryd.prog Tryd.f14 R .ret a w' := by
  refine bodyPost_ret (v := .tuple #[.agg (aC fr ho), .int .i64 c]) ?_ hd hR
  have hl := run_loadVar_mid w' b 0 42 (aC fr ho).toList _ (rng_ans hA) Tryd.underlying42 rfl info42
  simp only [results, Tryd.results14]
  simp [hp, hl, asAddr, hc]

set_option maxHeartbeats 8000000 in
set_option maxRecDepth 100000 in
theorem parse_free (w : World) (hE : Env w) : Calls Tryd.prog 14 #[.int .i64 12, .string ⟨#[102, 114, 101, 101, 32, 51, 10]⟩] w fun e w' => e = .returned (.tuple #[.agg (aC 3 0), .int .i64 0]) ∧ Below w.heap.size w w' := by
  have HR0 := Aside0.mk (alloc_ans (w := w) rfl 0 0)
  have HB0 := Aside0.mk (below_alloc (Below.refl w.heap.size w) (.cells (aC 0 0) 42))
  have HE := Aside0.mk hE
  have HLI := Lib.hid (fun W => lines_free W)
  have HSP := Lib.hid (show ∀ W, Env W → Calls Tryd.prog 24 #[.string ⟨#[102, 114, 101, 101, 32, 51]⟩, .string ⟨#[32]⟩] W (fun e w' => ∃ g, e = .returned (.slice (some ⟨g, 0, none⟩) 2 2) ∧ Kd.C Kd.string w' (some ⟨g, 0, none⟩) 2 [ofL [102, 114, 101, 101], ofL [51]] ∧ Below W.heap.size W w') from fun W hE => by
    have h := split_any (ofL [102, 114, 101, 101, 32, 51]) (by decide) W hE
    have hl : (wds (ofL [102, 114, 101, 101, 32, 51])).map ofL = [ofL [102, 114, 101, 101], ofL [51]] := by decide +kernel
    rw [hl] at h
    refine h.mono ?_
    rintro e w' ⟨g, rfl, _, _, hC, hb⟩
    exact ⟨g, rfl, hC, hb⟩)
  have HHD := Lib.hid (fun g W hE hC => head_12 g W hE hC)
  have HPR := Lib.hid (fun W hE => print_12 W hE)
  have HOW := Lib.hid (fun W => own2_12 W)
  clear hE
  go_enter Tryd.func14, Tryd.ntmps14
  go_wp2_with (go_at_call 34; refine (HLI.out _).mono ?_; rintro x w1 ⟨⟨g, c, rfl, hg, hc, hC⟩, hb1⟩; refine Hid.out ?_)
  refine Lib.hid ?_
  have HB1 := Aside0.mk (HB0.out.trans (hb1.mono HB0.out.size))
  have HR1 := Aside0.mk (ans_below HR0.out hb1)
  have HC1 := Aside0.mk hC
  have HHC := Aside0.mk hc
  obtain ⟨_, e0, x0⟩ := Kd.at_string hC 0 (by omega) (by decide)
  cases e0
  replace x0 : w1.cell? ⟨g, 0, none⟩ = some (.string ⟨#[102, 114, 101, 101, 32, 51]⟩) := x0
  have hgl := World.block_lt_of_cell? w1 _ x0
  clear hb1 hC HB0 HR0 hg
  go_wp2_with (go_at_call 24; refine (HSP.out _ (HE.out.step HB1.out)).mono ?_; rintro x w2 ⟨g2, rfl, hC2, hb2⟩; refine Hid.out ?_)
  refine Lib.hid ?_
  have HB2 := Aside0.mk (HB1.out.trans (hb2.mono HB1.out.size))
  have HR2 := Aside0.mk (ans_below HR1.out hb2)
  have HC2 := Aside0.mk hC2
  clear hb2 hC2 x0 hgl
  go_wp2_with (go_at_call 35; refine (HHD.out g2 _ (HE.out.step HB2.out) HC2.out).mono ?_; rintro x w3 ⟨rfl, hb3⟩; refine Hid.out ?_)
  refine Lib.hid ?_
  have hlt := blk_lt (ans_below HR2.out hb3)
  have HB3 := Aside0.mk (below_alloc (HB2.out.trans (hb3.mono HB2.out.size)) (.cells (aC 0 0) 42))
  have HR3 := Aside0.mk (ans_below (ans_below HR2.out hb3) ((Below.refl _ _).alloc (Nat.le_refl _) (.cells (aC 0 0) 42)))
  have HN3 := Aside0.mk (alloc_ans (w := w3) rfl 0 0)
  clear hb3
  go_wp2_with (first | (refine wpList_store_mid ?hg 42 (.tmp 8) (.tmp 30) ?ho (w3.heap.size) 0 (aC 3 0) ?hx ?hy ?ht info42 (one_ans _ _) ?_; (case ho => with_reducible rfl); (case hg => rfl); (case hx => rfl); (case hy => rfl); (case ht => exact there_ans HN3.out); refine Hid.out ?_))
  refine Lib.hid ?_
  refine wpl_gen ?_
  intro W hW
  have hbs : Below w3.heap.size (w3.alloc (.cells (aC 0 0) 42)) W := by rw [hW]; exact setc_below (Below.refl _ _) (Nat.le_refl _) _
  have HR := Aside0.mk (show IsAns W w.heap.size 0 0 from (hbs.block _ hlt).trans HR3.out)
  have HA := Aside0.mk (show IsAns W w3.heap.size 3 0 by rw [hW]; exact setc_ans HN3.out 3 0)
  have HB := Aside0.mk (HB3.out.trans (hbs.mono (by omega)))
  clear hW hbs HR3 HN3 HB3
  have hc1 := HHC.out
  go_wp2_with (fail)
  all_goals
    go_loopw [34] (fun iv wx => iv = .int .i64 0 ∧ wx = W) (fun _ _ => 0)
    case atStart => exact ⟨rfl, rfl⟩
    case round =>
      obtain ⟨rfl, rfl⟩ := hrel
      have hbe : ((ofL [102, 114, 101, 101, 32, 51, 10]).toList == (⟨#[102, 114, 101, 101, 32, 51, 10]⟩ : ByteArray).toList) = true := by rw [beq_iff_eq]; rfl
      have hbe2 : ((ofL [102, 114, 101, 101, 32, 51, 10]).toList == [102, 114, 101, 101, 32, 51, 10]) = true := by decide +kernel
      go_wp2_with (first
        | (refine wpList_load_mid ?hg 42 (.tmp 8) ?ho (w3.heap.size) 0 ?hx (aC 3 0).toList _ ?hc Tryd.underlying42 ?hd info42 ?_; (case ho => with_reducible rfl); (case hg => rfl); (case hx => rfl); (case hd => rfl); (case hc => exact rng_ans HA.out))
        | (go_at_call 13; refine (HPR.out _ (HE.out.step HB.out)).mono ?_; rintro x w4 ⟨rfl, hb4⟩; refine Hid.out ?_))
      refine Lib.hid ?_
      have HA4 := Aside0.mk (ans_below HA.out hb4)
      have HR4 := Aside0.mk (ans_below HR.out hb4)
      have HB4 := Aside0.mk (HB.out.trans (hb4.mono HB.out.size))
      clear hb4
      go_wp2_with (first
        | (refine wpList_load_mid ?hg 42 (.tmp 8) ?ho (w3.heap.size) 0 ?hx (aC 3 0).toList _ ?hc Tryd.underlying42 ?hd info42 ?_; (case ho => with_reducible rfl); (case hg => rfl); (case hx => rfl); (case hd => rfl); (case hc => exact rng_ans HA4.out))
        | (go_at_call 37; refine (HOW.out _).mono ?_; rintro x w5 ⟨rfl, hb5⟩; have HR5 := Aside0.mk (ans_below HR4.out hb5); have HB5 := Aside0.mk (HB4.out.trans (hb5.mono HB4.out.size)); clear hb5; refine Hid.out ?_))
      refine Lib.hid ?_
      go_wp2_with (first | (refine wpList_store_mid ?hg 42 (.tmp 4) (.tmp 93) ?ho (w.heap.size) 0 (aC 3 0) ?hx ?hy ?ht info42 (one_ans _ _) ?_; (case ho => with_reducible rfl); (case hg => rfl); (case hx => rfl); (case hy => rfl); (case ht => exact there_ans HR5.out)))
      exact close_parse (b := w.heap.size) (c := 0) rfl rfl rfl (setc_ans HR5.out 3 0) ⟨rfl, setc_below HB5.out (Nat.le_refl _) _⟩

end Go.Proofs.YtokioddaonknpaaDoor.A

namespace Go.Proofs.YtokioddaonknpaaDoor.A
open Go.RowKit Go.Proofs.YtokioddaonknpaaDoorW.PrintWords Go.Proofs.YtokioddaonknpaaDoor.PAnswersReads
set_option linter.unusedSimpArgs false
set_option linter.unusedVariables false

theorem wpList_load_g {ops : Array Oper} {rest : List Oper} {op : Oper} {a : Act} {w : World} {Q : Exit → Act → World → Prop} (hw : Region.wanted op (yielded ops a.tmps) = true) (ty : TypeId) (x : Operand) (ho : op.op = .load ty x)
    (b o : Nat) (hx : a.eval x = .pointer (some ⟨b, o, none⟩)) (cs : List Value) (d : TypeDesc) (hc : w.rangeAt b o cs)
    (hu : Tryd.prog.underlying ty = some d) (hd : d.isRow = true) (hi : (Tryd.prog.info? ty).map (·.size) = some cs.length)
    (h : wpList Tryd.prog ops Q rest (a.put op.dst (.agg cs.toArray)) w) : wpList Tryd.prog ops Q (op :: rest) a w :=
  wpList_step fun K hK => by rw [if_pos hw]; exact wp_load_mid ty x ho b o hx cs d hc hu hd hi (hK _ _ h)

set_option maxHeartbeats 8000000 in
set_option maxRecDepth 100000 in
theorem shown_any (w : World) (hE : Env w) : Calls Tryd.prog 6 #[] w fun e w' => e = .returned (.bool true) ∧ Below w.heap.size w w' := by
  have HE := Aside0.mk hE
  have HEV := Lib.hid (show ∀ W A, Env W → Kd.C (Kd.int .i64) W A 2 [0, 3] → Calls Tryd.prog 7 #[.agg #[.int .i64 2, .int .i64 2, .int .i64 7, .int .i64 0, .int .i64 0, .slice A 2 2]] W (fun e w' => e = .returned (.tuple #[.string (ofL [115, 116, 97, 114, 116, 32, 50, 32, 55, 32, 48, 32, 51]), .int .i64 0]) ∧ Below W.heap.size W w') from fun W A hE hC => by
    have h := event_any ⟨2, 2, 7, 0, 0, [0, 3]⟩ A 2 W hE ⟨by unfold Rng; decide, by unfold Rng; decide, by unfold Rng; decide, by unfold Rng; decide, by intro n hn; simp at hn; unfold Rng; omega⟩ hC (Nat.le_refl _) (by decide)
    have he : evA ⟨2, 2, 7, 0, 0, [0, 3]⟩ = ([115, 116, 97, 114, 116, 32, 50, 32, 55, 32, 48, 32, 51], 0) := by decide +kernel
    rw [he] at h
    exact h)
  have HRE := Lib.hid (show ∀ W, Env W → Calls Tryd.prog 9 #[.string ⟨#[101, 110, 100, 32, 50, 32, 57, 32, 107, 105, 108, 108, 101, 100]⟩] W (fun e w' => ∃ A c, e = .returned (.tuple #[.agg #[.int .i64 3, .int .i64 2, .int .i64 9, .int .i64 4, .int .i64 0, .slice A 0 c], .int .i64 0]) ∧ Below W.heap.size W w') from fun W hE => by
    have h := readEvent_any ⟨#[101, 110, 100, 32, 50, 32, 57, 32, 107, 105, 108, 108, 101, 100]⟩ (by decide) W hE
    have he : evT ⟨3, 2, 9, 4, 0, []⟩ = (⟨#[101, 110, 100, 32, 50, 32, 57, 32, 107, 105, 108, 108, 101, 100]⟩ : ByteArray).data.toList := by decide +kernel
    rw [← he, rdC_evT ⟨by unfold Rng; decide, by unfold Rng; decide, by unfold Rng; decide, by unfold Rng; decide, by intro n hn; cases hn⟩ (by decide +kernel)] at h
    refine h.mono ?_
    rintro e w' ⟨A, c, rfl, _, _, hb⟩
    exact ⟨A, c, rfl, hb⟩)
  have HPR := Lib.hid (fun W hE => print_10 W hE)
  have HPA := Lib.hid (fun W hE => parse_free W hE)
  have HCK := Lib.hid (fun W => check_14 W)
  have HSM := Lib.hid (show ∀ W A c, Calls Tryd.prog 10 #[.agg #[.int .i64 3, .int .i64 2, .int .i64 9, .int .i64 4, .int .i64 0, .slice A 0 c], .agg #[.int .i64 3, .int .i64 2, .int .i64 9, .int .i64 4, .int .i64 0, .slice none 0 0]] W (fun e w' => e = .returned (.bool true) ∧ Below W.heap.size W w') from fun W A c => by
    have hn : ∀ A, Kd.C (Kd.int .i64) W A 0 ([] : List Int) := fun A => ⟨rfl, Nat.zero_le _, fun h => absurd h (Nat.lt_irrefl 0)⟩
    exact backfilllaw09_same.calls 2 3 2 9 4 0 A c [] 3 2 9 4 0 none 0 [] true W (hn _) (Nat.zero_le _) (hn _) (Nat.le_refl _) (lsame_f ⟨3, 2, 9, 4, 0, []⟩ ⟨3, 2, 9, 4, 0, []⟩ (by decide) 2 (by decide)))
  have hb1 : ((ofL [115, 116, 97, 114, 116, 32, 50, 32, 55, 32, 48, 32, 51]).toList == (⟨#[115, 116, 97, 114, 116, 32, 50, 32, 55, 32, 48, 32, 51]⟩ : ByteArray).toList) = true := by rw [beq_iff_eq]; rfl
  have hb2 : ((ofL [115, 116, 97, 114, 116, 32, 50, 32, 55, 32, 48, 32, 51]).toList == [115, 116, 97, 114, 116, 32, 50, 32, 55, 32, 48, 32, 51]) = true := by decide +kernel
  have hb3 : ((ofL [104, 111, 108, 100, 101, 114, 32, 45, 49, 32, 48, 10]).toList == (⟨#[104, 111, 108, 100, 101, 114, 32, 45, 49, 32, 48, 10]⟩ : ByteArray).toList) = true := by rw [beq_iff_eq]; rfl
  have hb4 : ((ofL [104, 111, 108, 100, 101, 114, 32, 45, 49, 32, 48, 10]).toList == [104, 111, 108, 100, 101, 114, 32, 45, 49, 32, 48, 10]) = true := by decide +kernel
  clear hE
  go_enter Tryd.func6, Tryd.ntmps6
  go_wp2_with (go_at_call 7; refine Hid.out ?_)
  refine Lib.hid ?_
  refine (HEV.out _ _ (HE.out.step (below_alloc (Below.refl _ w) _)) (fresh_C [0, 3] (by decide) w 3)).mono ?_
  rintro x w1 ⟨rfl, hb⟩
  have HB1 := Aside0.mk (below_step (below_alloc (Below.refl _ w) _) hb)
  clear hb
  go_wp2_with (go_at_call 9; refine (HRE.out _ (HE.out.step HB1.out)).mono ?_; rintro x w2 ⟨A, c, rfl, hb⟩; refine Hid.out ?_)
  refine Lib.hid ?_
  have HX2 := Aside0.mk (alloc_ev (w := w2) rfl ⟨3, 2, 9, 4, 0, []⟩ A c)
  have HB2 := Aside0.mk (below_alloc (HB1.out.trans (hb.mono HB1.out.size)) (.cells (evCells ⟨3, 2, 9, 4, 0, []⟩ A c) 24))
  clear hb
  go_wp2_with (go_at_call 13; refine (HPR.out _ (HE.out.step HB2.out)).mono ?_; rintro x w3 ⟨rfl, hb⟩; refine Hid.out ?_)
  refine Lib.hid ?_
  have HX3 := Aside0.mk (ev_below HX2.out hb)
  have HB3 := Aside0.mk (HB2.out.trans (hb.mono HB2.out.size))
  clear hb
  go_wp2_with (go_at_call 14; refine (HPA.out _ (HE.out.step HB3.out)).mono ?_; rintro x w4 ⟨rfl, hb⟩; refine Hid.out ?_)
  refine Lib.hid ?_
  have hlx := blk_lt (ev_below HX3.out hb)
  have HX4 := Aside0.mk (ev_below (ev_below HX3.out hb) ((Below.refl _ _).alloc (Nat.le_refl _) (.cells (aC 0 0) 42)))
  have hs4 : w.heap.size ≤ w4.heap.size := Nat.le_trans HB3.out.size hb.size
  have HB4 := Aside0.mk (below_alloc (HB3.out.trans (hb.mono HB3.out.size)) (.cells (aC 0 0) 42))
  have HN4 := Aside0.mk (alloc_ans (w := w4) rfl 0 0)
  clear hb
  go_wp2_with (first | (refine wpList_store_mid ?hg 42 (.tmp 7) (.tmp 26) ?ho (w4.heap.size) 0 (aC 3 0) ?hx ?hy ?ht info42 (one_ans _ _) ?_; (case ho => with_reducible rfl); (case hg => rfl); (case hx => rfl); (case hy => rfl); (case ht => exact there_ans HN4.out); refine Hid.out ?_))
  refine Lib.hid ?_
  refine wpl_gen ?_
  intro W hW
  have hbs : Below w4.heap.size (w4.alloc (.cells (aC 0 0) 42)) W := by rw [hW]; exact setc_below (Below.refl _ _) (Nat.le_refl _) _
  have HX := Aside0.mk (show IsEv W w2.heap.size ⟨3, 2, 9, 4, 0, []⟩ A c from (hbs.block _ hlx).trans HX4.out)
  have HA := Aside0.mk (show IsAns W w4.heap.size 3 0 by rw [hW]; exact setc_ans HN4.out 3 0)
  have HB := Aside0.mk (HB4.out.trans (hbs.mono hs4))
  clear hW hbs HX4 HN4 HB4
  obtain ⟨x0, x1, x2, x3, x4, x5, xf⟩ := ev_cells HX.out
  dsimp only at x0 x1 x2 x3 x4 x5
  go_wp2_with (go_at_call 10; refine (HSM.out _ A c).mono ?_; rintro x w5 ⟨rfl, hb⟩; refine Hid.out ?_)
  refine Lib.hid ?_
  have HA5 := Aside0.mk (ans_below HA.out hb)
  have HB5 := Aside0.mk (HB.out.trans (hb.mono HB.out.size))
  clear hb x0 x1 x2 x3 x4 x5 xf
  obtain ⟨_, _, _, _, _, _, _, _, _, _, _, _, _, _, _, a15, _, _, _, _, _, _, _, _, _, _, _, _⟩ := ans_cells HA5.out
  go_wp2_with (first
    | (refine wpList_load_mid ?hg 42 (.tmp 7) ?ho (w4.heap.size) 0 ?hx (aC 3 0).toList _ ?hc Tryd.underlying42 ?hd info42 ?_; (case ho => with_reducible rfl); (case hg => rfl); (case hx => rfl); (case hd => rfl); (case hc => exact rng_ans HA5.out))
    | (refine wpList_load_g ?hw 42 (.tmp 7) ?ho (w4.heap.size) 0 ?hx (aC 3 0).toList _ ?hc Tryd.underlying42 ?hd info42 ?_; (case ho => with_reducible rfl); (case hw => kernel_rfl); (case hx => rfl); (case hd => rfl); (case hc => exact rng_ans HA5.out))
    | (go_at_call 15; refine (HCK.out _).mono ?_; rintro x w6 ⟨rfl, hb⟩; have HB6 := Aside0.mk (HB5.out.trans (hb.mono HB5.out.size)); clear hb))
  go_ret
  exact ⟨rfl, HB6.out⟩

end Go.Proofs.YtokioddaonknpaaDoor.A
