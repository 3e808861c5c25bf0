/- Own text: verbs.Check. -/
import Derived.Test.YtamimpomeigllaaDoorA5
import Derived.Laws.StructEq
import Derived.StillTailTactics
namespace Go.Proofs.YtamimpomeigllaaDoor.V
open Go.RowKit Go.Proofs.YtamimpomeigllaaDoorW.PrintWords Go.Proofs.YtamimpomeigllaaDoor.PVerbsReads

def getT (c : Cmd) (f : Int) : ByteArray := if f = 0 then c.name else c.parent
def getN (c : Cmd) (f : Int) : Int := if f = 2 then c.shares else if f = 3 then c.nodes else if f = 4 then c.limit else if f = 5 then c.job else c.ticks
def eqC (a b : Cmd) : Bool := a.kind == b.kind && (a.name.toList == b.name.toList && (a.parent.toList == b.parent.toList && (a.shares == b.shares && (a.nodes == b.nodes && (a.limit == b.limit && (a.job == b.job && a.ticks == b.ticks))))))
def checkF (c only : Cmd) : List Int → Int
  | [] => if eqC only c = true then 0 else 84
  | f :: fs => if IsT f then (if validB (getT c f) = true then checkF c (setT only f (getT c f)) fs else 84) else (if getN c f < 0 then 84 else checkF c (setN only f (getN c f)) fs)
def checkV (c : Cmd) : List S39 → Int
  | [] => 84
  | v :: vs => if v.f0 = c.kind then checkF c (kc c.kind) v.f2 else checkV c vs
def checkP (c : Cmd) : Int := checkV c vt

theorem eqA24 (d : Nat) (w : World) (x0 y0 : Int) (x1 y1 : ByteArray) (x2 y2 : ByteArray) (x3 y3 : Int) (x4 y4 : Int) (x5 y5 : Int) (x6 y6 : Int) (x7 y7 : Int) :
    (Op.equalIn (d + 2) 24 (.agg #[.int .i64 x0, .string x1, .string x2, .int .i64 x3, .int .i64 x4, .int .i64 x5, .int .i64 x6, .int .i64 x7]) (.agg #[.int .i64 y0, .string y1, .string y2, .int .i64 y3, .int .i64 y4, .int .i64 y5, .int .i64 y6, .int .i64 y7])).run Tryd.prog w = .ok (x0 == y0 && (x1.toList == y1.toList && (x2.toList == y2.toList && (x3 == y3 && (x4 == y4 && (x5 == y5 && (x6 == y6 && (x7 == y7)))))))) w := by
  refine eqA_of Tryd.underlying24 (by kernel_rfl) ?_
  refine eqf_cons (by rfl) (by go_simp; rfl) (by go_simp; rfl) (by go_simp) ?_
  refine eqf_cons (by rfl) (by go_simp; rfl) (by go_simp; rfl) (by go_simp) ?_
  refine eqf_cons (by rfl) (by go_simp; rfl) (by go_simp; rfl) (by go_simp) ?_
  refine eqf_cons (by rfl) (by go_simp; rfl) (by go_simp; rfl) (by go_simp) ?_
  refine eqf_cons (by rfl) (by go_simp; rfl) (by go_simp; rfl) (by go_simp) ?_
  refine eqf_cons (by rfl) (by go_simp; rfl) (by go_simp; rfl) (by go_simp) ?_
  refine eqf_cons (by rfl) (by go_simp; rfl) (by go_simp; rfl) (by go_simp) ?_
  exact eqf_last (by rfl) (by go_simp; rfl) (by go_simp; rfl) (by go_simp)
theorem eq24 (o c : Cmd) (w : World) : (Op.equalIn 10000 24 (.agg #[.int .i64 o.kind, .string o.name, .string o.parent, .int .i64 o.shares, .int .i64 o.nodes, .int .i64 o.limit, .int .i64 o.job, .int .i64 o.ticks]) (.agg #[.int .i64 c.kind, .string c.name, .string c.parent, .int .i64 c.shares, .int .i64 c.nodes, .int .i64 c.limit, .int .i64 c.job, .int .i64 c.ticks])).run Tryd.prog w = .ok (eqC o c) w := eqA24 9998 w _ _ _ _ _ _ _ _ _ _ _ _ _ _ _ _

theorem num_cell' {w : World} {b : Nat} {c : Cmd} (h : IsCmd w b c) (f : Int) : w.cell? ⟨b, numOff f, none⟩ = some (.int .i64 (getN c f)) := by
  have := fun i => blk_cell h i
  unfold numOff getN
  split
  · exact this 3
  split
  · exact this 4
  split
  · exact this 5
  split
  · exact this 6
  · exact this 7

theorem checkV_no (c : Cmd) (k : Nat) (hk : k < 13) (h : (vat k).f0 ≠ c.kind) : checkV c (vt.drop k) = checkV c (vt.drop (k + 1)) := by
  rw [vt_drop k hk, checkV, if_neg h]
theorem checkV_yes (c : Cmd) (k : Nat) (hk : k < 13) (h : (vat k).f0 = c.kind) : checkV c (vt.drop k) = checkF c (kc c.kind) (vat k).f2 := by
  rw [vt_drop k hk, checkV, if_pos h]
theorem checkF_drop (c only : Cmd) (fs : List Int) (j : Nat) (hj : j < fs.length) :
    checkF c only (fs.drop j) = if IsT (fs.getD j 0) then (if validB (getT c (fs.getD j 0)) = true then checkF c (setT only (fs.getD j 0) (getT c (fs.getD j 0))) (fs.drop (j + 1)) else 84) else (if getN c (fs.getD j 0) < 0 then 84 else checkF c (setN only (fs.getD j 0) (getN c (fs.getD j 0))) (fs.drop (j + 1))) := by
  rw [List.drop_eq_getElem_cons hj, checkF]
  rw [List.getD_eq_getElem?_getD, List.getElem?_eq_getElem hj]
  rfl
theorem checkF_end (c only : Cmd) (fs : List Int) (j : Nat) (hj : fs.length ≤ j) : checkF c only (fs.drop j) = if eqC only c = true then 0 else 84 := by
  rw [List.drop_of_length_le hj, checkF]

def CheckPost (r : Int) (w : World) (e : Ending) (w' : World) : Prop := e = .returned (.int .i64 r) ∧ Below w.heap.size w w'

set_option maxHeartbeats 4000000 in
set_option maxRecDepth 100000 in
theorem check_any (c : Cmd) (w : World) : Calls Tryd.prog 12 #[.agg (cells c)] w (CheckPost (checkP c) w) := by
  have hc0 := alloc_cmd (w := w) rfl c
  have HC0 := Aside0.mk hc0
  clear hc0
  go_enter Tryd.func12, Tryd.ntmps12
  go_wp2_with (go_at_call 15; refine (verbs_any _).mono ?_; rintro e w2 ⟨g2, cap2, rfl, hcap2, hg2, hV, hb2⟩; refine Hid.out ?_)
  refine Lib.hid ?_
  have hB : Below w.heap.size w w2 := ((Below.refl _ w).alloc (Nat.le_refl _) _).trans (hb2.mono (by simp))
  have hCc : IsCmd w2 w.heap.size c := cmd_below HC0.out hb2
  have hcl : w.heap.size < w2.heap.size := blk_lt hCc
  have hg2l : g2 < w2.heap.size := (World.block_lt_of_cell? w2 ⟨g2, 0, none⟩ (hV.at_ 0 (by omega)).choose_spec.choose_spec.1)
  have HB := Aside0.mk hB
  have HC := Aside0.mk hCc
  clear hB hCc hb2 HC0 hg2
  go_wp2
  go_loopw [12] (fun i wr => ∃ k : Nat, k ≤ 13 ∧ i = .int .i64 k ∧ Aside0 (checkP c = checkV c (vt.drop k)) ∧ Below w2.heap.size w2 wr) (fun i _ => 13 - (intOf i).toNat)
  case atStart => exact ⟨0, by omega, rfl, ⟨rfl⟩, Below.refl _ _⟩
  case round =>
    obtain ⟨wo, hwo⟩ : ∃ wo, wo = wr := ⟨wr, rfl⟩
    subst hwo
    obtain ⟨k, hk, rfl, hp, hbr⟩ := hrel
    by_cases hlt : k < 13
    · have hkB : decide ((k : Int) < 13) = true := decide_eq_true (by omega)
      obtain ⟨A, cA, kd, wd, fl, h0', h1', h2', hcA, hfl, hrd⟩ := hV.get k hlt
      have h0 : wo.cell? ⟨g2, k * 3, none⟩ = some (.int .i64 kd) := (hbr.cell (p := ⟨g2, k * 3, none⟩) hg2l).trans h0'
      have h1 : wo.cell? ⟨g2, k * 3 + 1, none⟩ = some (.string wd) := (hbr.cell (p := ⟨g2, k * 3 + 1, none⟩) hg2l).trans h1'
      have h2 : wo.cell? ⟨g2, k * 3 + 2, none⟩ = some (.slice A fl.length cA) := (hbr.cell (p := ⟨g2, k * 3 + 2, none⟩) hg2l).trans h2'
      have hcr : w.heap.size < wo.heap.size := Nat.lt_of_lt_of_le hcl hbr.size
      have HCo := Aside0.mk (show IsCmd wo w.heap.size c from (hbr.block _ hcl).trans HC.out)
      obtain ⟨c0, c1, c2, c3, c4, c5, c6, c7, cf⟩ := cmd_cells HCo.out
      have hBr := Aside0.mk hbr
      clear hbr h0' h1' h2'
      by_cases hm : kd = c.kind
      · have hfin : Aside0 (checkP c = checkF c (kc c.kind) fl) := ⟨by rw [hp.out, checkV_yes c k hlt (by rw [hrd.out.2]; exact hm), hrd.out.2]⟩
        have hmN : (kd != c.kind) = false := by rw [bne_eq_false_iff_eq]; exact hm
        clear hm hp
        go_wp2
        go_loopw [27] (fun j wr => ∃ (j' : Nat) (o : Cmd), j' ≤ fl.length ∧ j = .int .i64 j' ∧ Aside0 (IsCmd wr (wo.heap.size + 1) o) ∧ Aside0 (checkP c = checkF c o (fl.drop j')) ∧ Aside0 (Below w2.heap.size w2 wr)) (fun j _ => fl.length - (intOf j).toNat)
        case atStart => exact ⟨0, kc c.kind, Nat.zero_le _, rfl, ⟨alloc_cmd (by simp) (kc c.kind)⟩, ⟨by simpa using hfin.out⟩, ⟨(hBr.out.alloc hBr.out.size _).alloc (by have := hBr.out.size; simp; omega) _⟩⟩
        case round =>
          obtain ⟨j, o, hj, rfl, hO, hA, hq⟩ := hrel
          have hCq := show IsCmd wr w.heap.size c from (hq.out.block _ hcl).trans HC.out
          have HCq := Aside0.mk hCq
          clear hCq
          clear c0 c1 c2 c3 c4 c5 c6 c7 cf
          obtain ⟨c0, c1, c2, c3, c4, c5, c6, c7, cf⟩ := cmd_cells HCq.out
          by_cases hjl : j < fl.length
          · obtain ⟨ad, rfl, hfc0⟩ := (hrd.out.1.below hq.out).at_ (j : Int) (by omega) (by omega)
            rw [Int.toNat_natCast] at hfc0
            obtain ⟨f, hf⟩ : ∃ f, f = fl.getD j 0 := ⟨_, rfl⟩
            have hfc : wr.cell? (ad.add j) = some (.int .i64 f) := hfc0.trans (by rw [hf]; unfold rd; rw [Int.toNat_natCast])
            have hst := Aside0.mk (hA.out.trans (checkF_drop c o fl j hjl))
            rw [← hf] at hst
            have hsq := hBr.out.size
            have h8' : w.heap.size ≠ wo.heap.size + 1 := by omega
            clear hfc0 hf hA
            have hb3 : ∀ w3 : World, wr.grownBy w3 (some (wo.heap.size + 1)) → Below w2.heap.size w2 w3 := fun w3 h => hq.out.grown h hq.out.size (fun i hi => by cases hi; omega)
            have Hb3 := Aside0.mk hb3
            clear hb3
            by_cases hf0 : f = 0
            · subst hf0
              have hst0 : checkP c = if validB c.name = true then checkF c (setT o 0 c.name) (fl.drop (j + 1)) else 84 := hst.out.trans (if_pos (.inl rfl))
              by_cases hv : validB c.name = true
              · have hA2 : Aside0 (checkP c = checkF c (setT o 0 c.name) (fl.drop (j + 1))) := ⟨hst0.trans (if_pos hv)⟩
                clear hst0 hst
                have o1 := blk_cell hO.out 1
                have of1 := blk_frozen hO.out 1
                have HO1 := Aside0.mk (cmd_set (c' := setT o 0 c.name) hO.out 1 (.string c.name) rfl)
                go_wp2_with (first | (go_at_call 23; refine (text0 _ _).mono ?_; rintro e w1 ⟨rfl, rfl⟩) | (go_at_call 8; refine (valid_any _ _).mono ?_; rintro e w1 ⟨rfl, ⟨⟨n, rfl⟩⟩⟩))
                refine wp_region_still_tail 6 (by kernel_rfl) (by kernel_rfl) ?_
                generalize hw4 : ({ wr.drewN n with drawn := (wr.drewN n).drawn + 1 } : World) = w4
                have d1 : w4.cell? ⟨w.heap.size, 1, none⟩ = some (.string c.name) := by rw [← hw4]; exact c1
                have d2 : w4.cell? ⟨wo.heap.size + 1, 1, none⟩ = some (.string o.name) := by rw [← hw4]; exact o1
                have d3 : w4.frozen? ⟨wo.heap.size + 1, 1, none⟩ = false := by rw [← hw4]; exact of1
                have HO4 : Aside0 (IsCmd (w4.setCell ⟨wo.heap.size + 1, 1, none⟩ (.string c.name)) (wo.heap.size + 1) (setT o 0 c.name) ∧ wr.grownBy (w4.setCell ⟨wo.heap.size + 1, 1, none⟩ (.string c.name)) (some (wo.heap.size + 1))) := by
                  rw [← hw4]
                  exact ⟨HO1.out, grown_set (w := wr) (w1 := { wr.drewN n with drawn := (wr.drewN n).drawn + 1 }) ⟨rfl, rfl, rfl, Nat.le_refl _, fun _ _ _ => rfl⟩ 1 _⟩
                clear hw4
                simp only [List.take_succ_cons, List.take_zero, List.drop_succ_cons, List.drop_zero]
                repeat still_step
                still_call ((text0 _ _).mono fun _ _ h => ⟨h.1, h.2.symm⟩)
                repeat still_step
                refine wpStill_nil ?_
                go_wp2
                go_roundw
                case rel => exact ⟨j + 1, setT o 0 c.name, by omega, by go_num, ⟨HO4.out.1⟩, hA2, ⟨Hb3.out _ HO4.out.2⟩⟩
                case measure => simp [intOf]; omega
              · have hvF : validB c.name = false := by simpa using hv
                have hA2 : Aside0 (checkP c = 84) := ⟨hst0.trans (if_neg hv)⟩
                clear hst0 hst hv
                go_wp2_with (first | (go_at_call 23; refine (text0 _ _).mono ?_; rintro e w1 ⟨rfl, rfl⟩) | (go_at_call 8; refine (valid_any _ _).mono ?_; rintro e w1 ⟨rfl, ⟨⟨n, rfl⟩⟩⟩))
                go_ret
                rw [hA2.out]
                exact ⟨rfl, pw_below_drewN (HB.out.trans (hq.out.mono (by omega))) _⟩
            by_cases hf1 : f = 1
            · subst hf1
              have hst0 : checkP c = if validB c.parent = true then checkF c (setT o 1 c.parent) (fl.drop (j + 1)) else 84 := hst.out.trans (if_pos (.inr rfl))
              by_cases hv : validB c.parent = true
              · have hA2 : Aside0 (checkP c = checkF c (setT o 1 c.parent) (fl.drop (j + 1))) := ⟨hst0.trans (if_pos hv)⟩
                clear hst0 hst
                have o1 := blk_cell hO.out 2
                have of1 := blk_frozen hO.out 2
                have HO1 := Aside0.mk (cmd_set (c' := setT o 1 c.parent) hO.out 2 (.string c.parent) rfl)
                go_wp2_with (first | (go_at_call 23; refine (text1 _ _).mono ?_; rintro e w1 ⟨rfl, rfl⟩) | (go_at_call 8; refine (valid_any _ _).mono ?_; rintro e w1 ⟨rfl, ⟨⟨n, rfl⟩⟩⟩))
                refine wp_region_still_tail 6 (by kernel_rfl) (by kernel_rfl) ?_
                generalize hw4 : ({ wr.drewN n with drawn := (wr.drewN n).drawn + 1 } : World) = w4
                have d1 : w4.cell? ⟨w.heap.size, 2, none⟩ = some (.string c.parent) := by rw [← hw4]; exact c2
                have d2 : w4.cell? ⟨wo.heap.size + 1, 2, none⟩ = some (.string o.parent) := by rw [← hw4]; exact o1
                have d3 : w4.frozen? ⟨wo.heap.size + 1, 2, none⟩ = false := by rw [← hw4]; exact of1
                have HO4 : Aside0 (IsCmd (w4.setCell ⟨wo.heap.size + 1, 2, none⟩ (.string c.parent)) (wo.heap.size + 1) (setT o 1 c.parent) ∧ wr.grownBy (w4.setCell ⟨wo.heap.size + 1, 2, none⟩ (.string c.parent)) (some (wo.heap.size + 1))) := by
                  rw [← hw4]
                  exact ⟨HO1.out, grown_set (w := wr) (w1 := { wr.drewN n with drawn := (wr.drewN n).drawn + 1 }) ⟨rfl, rfl, rfl, Nat.le_refl _, fun _ _ _ => rfl⟩ 2 _⟩
                clear hw4
                simp only [List.take_succ_cons, List.take_zero, List.drop_succ_cons, List.drop_zero]
                repeat still_step
                still_call ((text1 _ _).mono fun _ _ h => ⟨h.1, h.2.symm⟩)
                repeat still_step
                refine wpStill_nil ?_
                go_wp2
                go_roundw
                case rel => exact ⟨j + 1, setT o 1 c.parent, by omega, by go_num, ⟨HO4.out.1⟩, hA2, ⟨Hb3.out _ HO4.out.2⟩⟩
                case measure => simp [intOf]; omega
              · have hvF : validB c.parent = false := by simpa using hv
                have hA2 : Aside0 (checkP c = 84) := ⟨hst0.trans (if_neg hv)⟩
                clear hst0 hst hv
                go_wp2_with (first | (go_at_call 23; refine (text1 _ _).mono ?_; rintro e w1 ⟨rfl, rfl⟩) | (go_at_call 8; refine (valid_any _ _).mono ?_; rintro e w1 ⟨rfl, ⟨⟨n, rfl⟩⟩⟩))
                go_ret
                rw [hA2.out]
                exact ⟨rfl, pw_below_drewN (HB.out.trans (hq.out.mono (by omega))) _⟩
            have hfn : ¬ IsT f := by intro h; rcases h with h | h; exact hf0 h; exact hf1 h
            have hst0 : checkP c = if getN c f < 0 then 84 else checkF c (setN o f (getN c f)) (fl.drop (j + 1)) := hst.out.trans (if_neg hfn)
            have hcn := num_cell' HCq.out f
            have hcf := blk_frozen HCq.out (numOff f)
            have hon := num_cell' hO.out f
            have hof := blk_frozen hO.out (numOff f)
            obtain ⟨n, hn⟩ : ∃ n, n = getN c f := ⟨_, rfl⟩
            rw [← hn] at hcn hst0
            have HO1 := Aside0.mk (cmd_set (c' := setN o f n) hO.out (numOff f) (.int .i64 n) (setN_cells _ _ _))
            have HG1 := Aside0.mk (grown_set (grown_refl wr (some (wo.heap.size + 1))) (numOff f) (.int .i64 n))
            have HFN := Aside0.mk hfn
            clear hn hst hfn hf0 hf1
            by_cases hneg : n < 0
            · have hA2 : Aside0 (checkP c = 84) := ⟨hst0.trans (if_pos hneg)⟩
              clear hst0
              go_wp2_with (first | (go_at_call 23; refine (textN _ _ HFN.out _).mono ?_; rintro e w1 ⟨rfl, rfl⟩) | (go_at_call 25; refine (number_any _ _ _).mono ?_; rintro e w1 ⟨rfl, rfl⟩))
              go_ret
              rw [hA2.out]
              exact ⟨rfl, HB.out.trans (hq.out.mono (by omega))⟩
            · have hA2 : Aside0 (checkP c = checkF c (setN o f n) (fl.drop (j + 1))) := ⟨hst0.trans (if_neg hneg)⟩
              clear hst0
              go_wp2_with (first | (go_at_call 23; refine (textN _ _ HFN.out _).mono ?_; rintro e w1 ⟨rfl, rfl⟩) | (go_at_call 25; refine (number_any _ _ _).mono ?_; rintro e w1 ⟨rfl, rfl⟩))
              go_roundw
              case rel => exact ⟨j + 1, setN o f n, by omega, by go_num, ⟨HO1.out⟩, hA2, ⟨Hb3.out _ HG1.out⟩⟩
              case measure => simp [intOf]; omega
          · have hA2 := Aside0.mk (hA.out.trans (checkF_end c o fl j (by omega)))
            have HOq := Aside0.mk hO.out
            obtain ⟨o0, o1, o2, o3, o4, o5, o6, o7, of⟩ := cmd_cells hO.out
            have heq := eq24 o c
            by_cases he : eqC o c = true
            · have hA3 : Aside0 (checkP c = 0) := ⟨hA2.out.trans (if_pos he)⟩
              go_wp2
              go_ret
              rw [hA3.out]
              exact ⟨rfl, HB.out.trans (hq.out.mono (by omega))⟩
            · have hA3 : Aside0 (checkP c = 84) := ⟨hA2.out.trans (if_neg he)⟩
              have heF : eqC o c = false := by simpa using he
              clear he
              go_wp2
              go_ret
              rw [hA3.out]
              exact ⟨rfl, HB.out.trans (hq.out.mono (by omega))⟩
      · have hp' := Aside0.mk (hp.out.trans (checkV_no c k hlt (by rw [hrd.out.2]; exact hm)))
        have hmN : (kd != c.kind) = true := by rw [bne_iff_ne]; exact hm
        clear hm hp
        go_wp2
        go_roundw
        case rel => exact ⟨k + 1, by omega, by go_num, hp', hBr.out.alloc hBr.out.size _⟩
        case measure => simp [intOf]; omega
    · have hk13 : k = 13 := by omega
      subst hk13
      have hBr := Aside0.mk hbr
      clear hbr
      go_wp2
      go_ret
      rw [hp.out]
      exact ⟨rfl, HB.out.trans (hBr.out.mono (by omega))⟩

end Go.Proofs.YtamimpomeigllaaDoor.V
