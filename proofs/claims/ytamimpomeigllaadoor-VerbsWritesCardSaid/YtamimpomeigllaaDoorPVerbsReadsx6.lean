-- PRINTED BY print.sh 35421559b90ae4d0a3588c463048766b98c2df88dd9212a6774a882060cdf62d: not written by this session
import Derived.Test.YtamimpomeigllaaDoorPVerbsReadsx0
namespace Go.Proofs.YtamimpomeigllaaDoor.PVerbsReads
open Go.RowKit Go.Proofs.YtamimpomeigllaaDoorW.PrintWords Go.Proofs.YtamimpomeigllaaDoorW.PrintLast Go.Proofs.YtamimpomeigllaaDoorW.PrintMore
attribute [local go_sem] max2_int min2_int max_two min_two max_three min_three max_four min_four   -- for this text's walks alone
set_option linter.unusedVariables false
set_option linter.unusedSimpArgs false

/-! ### backfillref08_split: function 17 -/
def backfillref08_split.l0 : Nat → ByteArray → List ByteArray → Int → Int → Option (List ByteArray)
  | 0, _, _, _, _ => none
  | k + 1, x0, x3, x4, x5 => if x5 ≤ (x0.size : Int) then (if x5 = (x0.size : Int) then (if 0 ≤ x4 then (if x4 ≤ x5 then (if x3.length < 8796093022208 then (backfillref08_split.l0 k x0 (x3 ++ [x0.extract (x4 : Int).toNat (x5 : Int).toNat]) (wrap64 (x5 + 1)) (wrap64 (x5 + 1))) else (none)) else (none)) else (none)) else (if 0 ≤ x5 then (if x5 < (x0.size : Int) then (if (bt x0 x5) = 32 then (if 0 ≤ x4 then (if x4 ≤ x5 then (if x3.length < 8796093022208 then (backfillref08_split.l0 k x0 (x3 ++ [x0.extract (x4 : Int).toNat (x5 : Int).toNat]) (wrap64 (x5 + 1)) (wrap64 (x5 + 1))) else (none)) else (none)) else (none)) else (backfillref08_split.l0 k x0 x3 x4 (wrap64 (x5 + 1)))) else (none)) else (none))) else (some x3)
def backfillref08_split.f (k : Nat) (a0 : ByteArray) : Option (List ByteArray) := backfillref08_split.l0 k a0 (([] : List ByteArray)) 0 0
theorem backfillref08_split.mono_l : ∀ k, (∀ y0 y1 y2 y3, LeO (backfillref08_split.l0 k y0 y1 y2 y3) (backfillref08_split.l0 (k + 1) y0 y1 y2 y3))
  | 0 => fun _ _ _ _ r h => by simp [backfillref08_split.l0] at h
  | k + 1 => by
    have ih0 := backfillref08_split.mono_l k
    · intro y0 y1 y2 y3
      unfold backfillref08_split.l0
      repeat' first
      | (with_reducible exact ih0 _ _ _ _)
      | (with_reducible exact LeO.refl _)
      | (with_reducible exact LeO.none _)
      | (with_reducible refine LeO.ite ?_ ?_)
      | (with_reducible refine LeO.bind ?_ (fun _ => ?_))
      | exact ih0 _ _ _ _
      | exact LeO.none _
      | refine LeO.ite ?_ ?_
      | refine LeO.bind ?_ (fun _ => ?_)
theorem backfillref08_split.mono : ∀ a0 k, LeO (backfillref08_split.f k a0) (backfillref08_split.f (k + 1) a0) := by
  intro a0 k
  have ih0 := backfillref08_split.mono_l k
  unfold backfillref08_split.f
  repeat' first
      | (with_reducible exact ih0 _ _ _ _)
      | (with_reducible exact LeO.refl _)
      | (with_reducible exact LeO.none _)
      | (with_reducible refine LeO.ite ?_ ?_)
      | (with_reducible refine LeO.bind ?_ (fun _ => ?_))
      | exact ih0 _ _ _ _
      | exact LeO.none _
      | refine LeO.ite ?_ ?_
      | refine LeO.bind ?_ (fun _ => ?_)
set_option maxHeartbeats 8000000 in
set_option maxRecDepth 100000 in
theorem backfillref08_split.calls (k : Nat) (a0 : ByteArray) (r : List ByteArray) (w : World) (h : backfillref08_split.f k a0 = some r) :
    Calls Tryd.prog 17 #[.string a0] w fun e w' => ∃ v0_ : Value, e = .returned (v0_) ∧ Kd.R Kd.string 9 w' w.heap.size (fun _ => True) v0_ r ∧ Below w.heap.size w w' := by
  have HB := Aside0.mk (Below.refl w.heap.size w)
  have H : (backfillref08_split.l0 k a0 (([] : List ByteArray)) 0 0) = some r := h
  clear h
  obtain ⟨y181, hy181⟩ : ∃ y_ : List ByteArray, y_ = (([] : List ByteArray)) := ⟨_, rfl⟩
  replace H : (backfillref08_split.l0 k a0 y181 0 0) = some r := by first | (rw [hy181]; with_reducible exact H) | (have H2_ := (Option.bind_some _ _).symm.trans H; rw [hy181]; with_reducible exact H2_) | (have H2_ := (Option.bind_some _ _).symm.trans H; with_reducible exact H2_) | with_reducible exact H | (rw [hy181]; exact H) | exact H
  have Ny181 := Aside0.mk hy181
  clear hy181
  have H' := Aside0.mk H
  clear H
  go_enter Tryd.func17, Tryd.ntmps17
  go_wp2_with (first | ((with_reducible refine gate_dst (N := 6) rfl ?_); refine Kd.R_lit Kd.string _ 9 ?hg (N := 6) ?hd (xs := ([] : List ByteArray)) (inner := []) (ok := fun _ => True) (okp := fun _ => True) ?hr ?hp (fun _ hk => hk) trivial (Below.refl _ _) (Nat.le_refl _) (by simp) ?_; (case hd => rfl); (case hg => rfl); (case hr => first | (go_simp; done) | (go_simp; rfl)); (case hp => exact (Reps.none _ _)); intro v182 w2 ho3 hb hg_ hnew_; clear hg_ hnew_; (first | rw [← Ny181.out] at ho3 | (simp only [Int.reduceToNat] at ho3; rw [← Ny181.out] at ho3)); have n0_ := Aside0.mk (Kd.R_lower ho3 (below_size (by repeat (first | (with_reducible first | exact HB.out | apply below_alloc | apply pw_below_drewN | apply below_drew1) | exact HB.out)))); have n1_ := Aside0.mk (below_step (by repeat (first | (with_reducible first | exact HB.out | apply below_alloc | apply pw_below_drewN | apply below_drew1) | exact HB.out)) hb); clear HB; have HO183 := n0_; have HB := n1_; clear n0_ n1_; clear hb ho3))
  go_loopg [3, 4, 5] k (fun kq v3 v4 v5 w' => ∃ (x3_1 : List ByteArray) (x4_1 : Int) (x5_1 : Int), v4 = .int .i64 x4_1 ∧ v5 = .int .i64 x5_1 ∧ Aside0 (backfillref08_split.l0 kq a0 x3_1 x4_1 x5_1 = some r) ∧ Aside0 (kq ≤ k) ∧ Aside0 (Kd.R Kd.string 9 w' w.heap.size (fun _ => True) v3 x3_1) ∧ Aside0 (Below w.heap.size w w'))
  case atStart => exact ⟨(y181), (0), (0), (by first | rfl | (simp; done) | (simp [*]; done)), (by first | rfl | (simp; done) | (simp [*]; done)), H', ⟨Nat.le_refl _⟩, ⟨by (with_reducible repeat (first | apply Kd.R_alloc | apply Kd.R_drewN | apply Kd.R_drew)); exact HO183.out⟩, ⟨by repeat (first | (with_reducible first | exact HB.out | apply below_alloc | apply pw_below_drewN | apply below_drew1) | exact HB.out)⟩⟩
  case round =>
    clear H'
    try clear c1
    try clear p2
    obtain ⟨x3_1, x4_1, x5_1, rfl, rfl, HA, HK1, HO_3, HB⟩ := hrel
    cases gk with
    | zero => exact absurd HA.out (by simp [backfillref08_split.l0])
    | succ k1 =>
      have H := HA.out
      clear HA
      simp only [backfillref08_split.l0] at H
      by_cases c4 : x5_1 ≤ (a0.size : Int)
      · rw [if_pos c4] at H
        have c4b0 : decide (x5_1 ≤ (a0.size : Int)) = true := decide_eq_true c4
        clear c4
        by_cases c5 : x5_1 = (a0.size : Int)
        · rw [if_pos c5] at H
          have c5b0 : (x5_1 == (a0.size : Int)) = true := beq_iff_eq.mpr c5
          have c5b1 : (x5_1 != (a0.size : Int)) = false := bne_eq_false_iff_eq.mpr c5
          clear c5
          by_cases c6 : 0 ≤ x4_1
          · rw [if_pos c6] at H
            have c6b0 := eq_true c6
            have c6b1 : decide (0 ≤ x4_1) = true := decide_eq_true c6
            clear c6
            by_cases c7 : x4_1 ≤ x5_1
            · rw [if_pos c7] at H
              have c7b0 := eq_true c7
              have c7b1 : decide (x4_1 ≤ x5_1) = true := decide_eq_true c7
              clear c7
              have c8b0 := eq_true (of_decide_eq_true (by first | (with_reducible assumption) | assumption) : x5_1 ≤ (a0.size : Int))
              by_cases c9 : x3_1.length < 8796093022208
              · rw [if_pos c9] at H
                have LMc9 := Aside0.mk c9
                clear c9
                obtain ⟨y184, hy184⟩ : ∃ y_ : List ByteArray, y_ = (x3_1 ++ [a0.extract (x4_1 : Int).toNat (x5_1 : Int).toNat]) := ⟨_, rfl⟩
                replace H : (backfillref08_split.l0 k1 a0 y184 (wrap64 (x5_1 + 1)) (wrap64 (x5_1 + 1))) = some r := by first | (rw [hy184]; with_reducible exact H) | (have H2_ := (Option.bind_some _ _).symm.trans H; rw [hy184]; with_reducible exact H2_) | (have H2_ := (Option.bind_some _ _).symm.trans H; with_reducible exact H2_) | with_reducible exact H | (rw [hy184]; exact H) | exact H
                have Ny184 := Aside0.mk hy184
                clear hy184
                have H' := Aside0.mk H
                clear H
                go_wp2_with (first | ((with_reducible refine gate_builtin (b := .append) (xs := #[.tmp 23, .tmp 28]) rfl ?_); at_builtin; refine Kd.R_append Kd.string (w0 := w) w.heap.size rfl (.tmp 23) (.tmp 28) 33 9 (.string ⟨#[]⟩) 16 rfl Tryd.underlying33 info9 rfl (by decide) (by omega) u3 x3_1 (a0.extract (x4_1 : Int).toNat (x5_1 : Int).toNat) [.string (a0.extract (x4_1 : Int).toNat (x5_1 : Int).toNat)] (fun _ => True) (fun _ => False) rfl rfl ?aP (fun _ hk => hk.elim) ?aF ?aO ?aB ?aS ?aL ?_; (case aP => exact rfl); (case aB => exact (by repeat (first | (with_reducible first | exact HB.out | apply below_alloc | apply pw_below_drewN | apply below_drew1) | exact HB.out))); (case aF => exact (fun _ _ => trivial)); (case aO => exact (by (with_reducible repeat (first | apply Kd.R_alloc | apply Kd.R_drewN | apply Kd.R_drew)); exact HO_3.out)); (case aS => exact (below_size (by repeat (first | (with_reducible first | exact HB.out | apply below_alloc | apply pw_below_drewN | apply below_drew1) | exact HB.out)))); (case aL => have := LMc9.out; omega); intro v185 w10 ho hb hg hat; rw [← Ny184.out] at ho; have n0_ := Aside0.mk (hb); have n1_ := Aside0.mk (ho); clear HB; clear HO_3; have HB := n0_; have HO186 := n1_; clear n0_ n1_; clear ho hb hg hat))
                go_roundg k1
                case measure => have := HK1.out; omega
                case rel => exact ⟨(y184), (wrap64 (x5_1 + 1)), (wrap64 (x5_1 + 1)), (by first | rfl | (simp; done) | (simp [*]; done)), (by first | rfl | (simp; done) | (simp [*]; done)), H', ⟨by have := HK1.out; omega⟩, ⟨by (with_reducible repeat (first | apply Kd.R_alloc | apply Kd.R_drewN | apply Kd.R_drew)); exact HO186.out⟩, ⟨by repeat (first | (with_reducible first | exact HB.out | apply below_alloc | apply pw_below_drewN | apply below_drew1) | exact HB.out)⟩⟩
              · rw [if_neg c9] at H
                exact absurd H (by simp)
            · rw [if_neg c7] at H
              exact absurd H (by simp)
          · rw [if_neg c6] at H
            exact absurd H (by simp)
        · rw [if_neg c5] at H
          have c5b0 : (x5_1 == (a0.size : Int)) = false := beq_eq_false_iff_ne.mpr c5
          have c5b1 : (x5_1 != (a0.size : Int)) = true := bne_iff_ne.mpr c5
          by_cases c11 : 0 ≤ x5_1
          · rw [if_pos c11] at H
            have c11b0 : decide (0 ≤ x5_1) = true := decide_eq_true c11
            clear c11
            by_cases c12 : x5_1 < (a0.size : Int)
            · rw [if_pos c12] at H
              have c12b0 : decide (x5_1 < (a0.size : Int)) = true := decide_eq_true c12
              clear c12
              by_cases c14 : (bt a0 x5_1) = 32
              · rw [if_pos c14] at H
                have c14b0 : ((bt a0 x5_1) == 32) = true := beq_iff_eq.mpr c14
                have c14b1 : ((bt a0 x5_1) != 32) = false := bne_eq_false_iff_eq.mpr c14
                clear c14
                by_cases c15 : 0 ≤ x4_1
                · rw [if_pos c15] at H
                  have c15b0 := eq_true c15
                  have c15b1 : decide (0 ≤ x4_1) = true := decide_eq_true c15
                  clear c15
                  by_cases c16 : x4_1 ≤ x5_1
                  · rw [if_pos c16] at H
                    have c16b0 := eq_true c16
                    have c16b1 : decide (x4_1 ≤ x5_1) = true := decide_eq_true c16
                    clear c16
                    have c17b0 := eq_true (of_decide_eq_true (by first | (with_reducible assumption) | assumption) : x5_1 ≤ (a0.size : Int))
                    by_cases c18 : x3_1.length < 8796093022208
                    · rw [if_pos c18] at H
                      have LMc18 := Aside0.mk c18
                      clear c18
                      obtain ⟨y187, hy187⟩ : ∃ y_ : List ByteArray, y_ = (x3_1 ++ [a0.extract (x4_1 : Int).toNat (x5_1 : Int).toNat]) := ⟨_, rfl⟩
                      replace H : (backfillref08_split.l0 k1 a0 y187 (wrap64 (x5_1 + 1)) (wrap64 (x5_1 + 1))) = some r := by first | (rw [hy187]; with_reducible exact H) | (have H2_ := (Option.bind_some _ _).symm.trans H; rw [hy187]; with_reducible exact H2_) | (have H2_ := (Option.bind_some _ _).symm.trans H; with_reducible exact H2_) | with_reducible exact H | (rw [hy187]; exact H) | exact H
                      have Ny187 := Aside0.mk hy187
                      clear hy187
                      have H' := Aside0.mk H
                      clear H
                      have p13 : 0 ≤ (x5_1 : Int) := of_decide_eq_true (by first | (with_reducible assumption) | assumption)
                      have q13 : x5_1 < (a0.size : Int) := of_decide_eq_true (by first | (with_reducible assumption) | assumption)
                      have hx13 := bt_at a0 x5_1
                      replace p13 := eq_true p13
                      replace q13 := eq_true q13
                      go_wp2_with (first | ((with_reducible refine gate_builtin (b := .append) (xs := #[.tmp 23, .tmp 28]) rfl ?_); at_builtin; refine Kd.R_append Kd.string (w0 := w) w.heap.size rfl (.tmp 23) (.tmp 28) 33 9 (.string ⟨#[]⟩) 16 rfl Tryd.underlying33 info9 rfl (by decide) (by omega) u3 x3_1 (a0.extract (x4_1 : Int).toNat (x5_1 : Int).toNat) [.string (a0.extract (x4_1 : Int).toNat (x5_1 : Int).toNat)] (fun _ => True) (fun _ => False) rfl rfl ?aP (fun _ hk => hk.elim) ?aF ?aO ?aB ?aS ?aL ?_; (case aP => exact rfl); (case aB => exact (by repeat (first | (with_reducible first | exact HB.out | apply below_alloc | apply pw_below_drewN | apply below_drew1) | exact HB.out))); (case aF => exact (fun _ _ => trivial)); (case aO => exact (by (with_reducible repeat (first | apply Kd.R_alloc | apply Kd.R_drewN | apply Kd.R_drew)); exact HO_3.out)); (case aS => exact (below_size (by repeat (first | (with_reducible first | exact HB.out | apply below_alloc | apply pw_below_drewN | apply below_drew1) | exact HB.out)))); (case aL => have := LMc18.out; omega); intro v188 w19 ho hb hg hat; rw [← Ny187.out] at ho; have n0_ := Aside0.mk (hb); have n1_ := Aside0.mk (ho); clear HB; clear HO_3; have HB := n0_; have HO189 := n1_; clear n0_ n1_; clear ho hb hg hat))
                      go_roundg k1
                      case measure => have := HK1.out; omega
                      case rel => exact ⟨(y187), (wrap64 (x5_1 + 1)), (wrap64 (x5_1 + 1)), (by first | rfl | (simp; done) | (simp [*]; done)), (by first | rfl | (simp; done) | (simp [*]; done)), H', ⟨by have := HK1.out; omega⟩, ⟨by (with_reducible repeat (first | apply Kd.R_alloc | apply Kd.R_drewN | apply Kd.R_drew)); exact HO189.out⟩, ⟨by repeat (first | (with_reducible first | exact HB.out | apply below_alloc | apply pw_below_drewN | apply below_drew1) | exact HB.out)⟩⟩
                    · rw [if_neg c18] at H
                      exact absurd H (by simp)
                  · rw [if_neg c16] at H
                    exact absurd H (by simp)
                · rw [if_neg c15] at H
                  exact absurd H (by simp)
              · rw [if_neg c14] at H
                have c14b0 : ((bt a0 x5_1) == 32) = false := beq_eq_false_iff_ne.mpr c14
                have c14b1 : ((bt a0 x5_1) != 32) = true := bne_iff_ne.mpr c14
                have H' := Aside0.mk H
                clear H
                have p13 : 0 ≤ (x5_1 : Int) := of_decide_eq_true (by first | (with_reducible assumption) | assumption)
                have q13 : x5_1 < (a0.size : Int) := of_decide_eq_true (by first | (with_reducible assumption) | assumption)
                have hx13 := bt_at a0 x5_1
                replace p13 := eq_true p13
                replace q13 := eq_true q13
                go_wp2
                go_roundg k1
                case measure => have := HK1.out; omega
                case rel => exact ⟨(x3_1), (x4_1), (wrap64 (x5_1 + 1)), (by first | rfl | (simp; done) | (simp [*]; done)), (by first | rfl | (simp; done) | (simp [*]; done)), H', ⟨by have := HK1.out; omega⟩, ⟨by (with_reducible repeat (first | apply Kd.R_alloc | apply Kd.R_drewN | apply Kd.R_drew)); exact HO_3.out⟩, ⟨by repeat (first | (with_reducible first | exact HB.out | apply below_alloc | apply pw_below_drewN | apply below_drew1) | exact HB.out)⟩⟩
            · rw [if_neg c12] at H
              exact absurd H (by simp)
          · rw [if_neg c11] at H
            exact absurd H (by simp)
      · rw [if_neg c4] at H
        have c4b0 : decide (x5_1 ≤ (a0.size : Int)) = false := decide_eq_false c4
        clear c4
        obtain rfl := Option.some.inj H
        go_wp2
        go_ret
        exact ⟨_, by first | rfl | (simp [errW_none, errW_some] <;> rfl) | (simp [*, errW_none, errW_some] <;> rfl), by (with_reducible repeat (first | apply Kd.R_alloc | apply Kd.R_drewN | apply Kd.R_drew)); exact HO_3.out, by repeat (first | (with_reducible first | exact HB.out | apply below_alloc | apply pw_below_drewN | apply below_drew1) | exact HB.out)⟩

/-! ### backfillref08_word: function 18 -/
def backfillref08_word.f (a0 : Int) : Option (ByteArray × ByteArray) := if a0 = 1 then (some ((⟨#[115, 117, 98, 109, 105, 116]⟩ : ByteArray), (⟨#[78, 110, 108]⟩ : ByteArray))) else (if a0 = 2 then (some ((⟨#[99, 97, 110, 99, 101, 108]⟩ : ByteArray), (⟨#[106]⟩ : ByteArray))) else (if a0 = 3 then (some ((⟨#[99, 111, 109, 112, 108, 101, 116, 101]⟩ : ByteArray), (⟨#[106]⟩ : ByteArray))) else (if a0 = 4 then (some ((⟨#[116, 105, 99, 107]⟩ : ByteArray), (⟨#[116]⟩ : ByteArray))) else (if a0 = 5 then (some ((⟨#[97, 99, 99, 111, 117, 110, 116]⟩ : ByteArray), (⟨#[78, 80, 104]⟩ : ByteArray))) else (if a0 = 6 then (some ((⟨#[115, 104, 97, 114, 101, 115]⟩ : ByteArray), (⟨#[78, 104]⟩ : ByteArray))) else (if a0 = 7 then (some ((⟨#[109, 111, 118, 101]⟩ : ByteArray), (⟨#[78, 80]⟩ : ByteArray))) else (if a0 = 8 then (some ((⟨#[99, 108, 111, 115, 101]⟩ : ByteArray), (⟨#[78]⟩ : ByteArray))) else (if a0 = 9 then (some ((⟨#[106, 111, 98]⟩ : ByteArray), (⟨#[106]⟩ : ByteArray))) else (if a0 = 10 then (some ((⟨#[113, 117, 101, 117, 101]⟩ : ByteArray), (⟨#[]⟩ : ByteArray))) else (if a0 = 11 then (some ((⟨#[117, 115, 97, 103, 101]⟩ : ByteArray), (⟨#[78]⟩ : ByteArray))) else (if a0 = 12 then (some ((⟨#[110, 111, 100, 101, 115]⟩ : ByteArray), (⟨#[]⟩ : ByteArray))) else (if a0 = 13 then (some ((⟨#[99, 111, 110, 102, 105, 103]⟩ : ByteArray), (⟨#[]⟩ : ByteArray))) else (some ((⟨#[]⟩ : ByteArray), (⟨#[]⟩ : ByteArray)))))))))))))))
set_option maxHeartbeats 8000000 in
set_option maxRecDepth 100000 in
theorem backfillref08_word.calls (a0 : Int) (r1 : ByteArray) (r2 : ByteArray) (w : World) (h : backfillref08_word.f a0 = some (r1, r2)) :
    Calls Tryd.prog 18 #[.int .i64 a0] w fun e w' => e = .returned (.tuple #[.string r1, .string r2]) ∧ Drawn0 w w' := by
  have H : (if a0 = 1 then (some ((⟨#[115, 117, 98, 109, 105, 116]⟩ : ByteArray), (⟨#[78, 110, 108]⟩ : ByteArray))) else (if a0 = 2 then (some ((⟨#[99, 97, 110, 99, 101, 108]⟩ : ByteArray), (⟨#[106]⟩ : ByteArray))) else (if a0 = 3 then (some ((⟨#[99, 111, 109, 112, 108, 101, 116, 101]⟩ : ByteArray), (⟨#[106]⟩ : ByteArray))) else (if a0 = 4 then (some ((⟨#[116, 105, 99, 107]⟩ : ByteArray), (⟨#[116]⟩ : ByteArray))) else (if a0 = 5 then (some ((⟨#[97, 99, 99, 111, 117, 110, 116]⟩ : ByteArray), (⟨#[78, 80, 104]⟩ : ByteArray))) else (if a0 = 6 then (some ((⟨#[115, 104, 97, 114, 101, 115]⟩ : ByteArray), (⟨#[78, 104]⟩ : ByteArray))) else (if a0 = 7 then (some ((⟨#[109, 111, 118, 101]⟩ : ByteArray), (⟨#[78, 80]⟩ : ByteArray))) else (if a0 = 8 then (some ((⟨#[99, 108, 111, 115, 101]⟩ : ByteArray), (⟨#[78]⟩ : ByteArray))) else (if a0 = 9 then (some ((⟨#[106, 111, 98]⟩ : ByteArray), (⟨#[106]⟩ : ByteArray))) else (if a0 = 10 then (some ((⟨#[113, 117, 101, 117, 101]⟩ : ByteArray), (⟨#[]⟩ : ByteArray))) else (if a0 = 11 then (some ((⟨#[117, 115, 97, 103, 101]⟩ : ByteArray), (⟨#[78]⟩ : ByteArray))) else (if a0 = 12 then (some ((⟨#[110, 111, 100, 101, 115]⟩ : ByteArray), (⟨#[]⟩ : ByteArray))) else (if a0 = 13 then (some ((⟨#[99, 111, 110, 102, 105, 103]⟩ : ByteArray), (⟨#[]⟩ : ByteArray))) else (some ((⟨#[]⟩ : ByteArray), (⟨#[]⟩ : ByteArray)))))))))))))))) = some (r1, r2) := h
  clear h
  by_cases c2 : a0 = 1
  · rw [if_pos c2] at H
    have c2b0 : (a0 == 1) = true := beq_iff_eq.mpr c2
    have c2b1 : (a0 != 1) = false := bne_eq_false_iff_eq.mpr c2
    clear c2
    simp only [Option.some.injEq, Prod.mk.injEq] at H
    obtain ⟨rfl, rfl⟩ := H
    go_enter Tryd.func18, Tryd.ntmps18
    go_wp2
    go_ret2
    exact ⟨by first | rfl | (simp; done) | (simp [*]; done), by repeat (first | exact Drawn0.refl _ | apply Drawn0.step)⟩
  · rw [if_neg c2] at H
    have c2b0 : (a0 == 1) = false := beq_eq_false_iff_ne.mpr c2
    have c2b1 : (a0 != 1) = true := bne_iff_ne.mpr c2
    by_cases c3 : a0 = 2
    · rw [if_pos c3] at H
      have c3b0 : (a0 == 2) = true := beq_iff_eq.mpr c3
      have c3b1 : (a0 != 2) = false := bne_eq_false_iff_eq.mpr c3
      clear c3
      simp only [Option.some.injEq, Prod.mk.injEq] at H
      obtain ⟨rfl, rfl⟩ := H
      go_enter Tryd.func18, Tryd.ntmps18
      go_wp2
      go_ret2
      exact ⟨by first | rfl | (simp; done) | (simp [*]; done), by repeat (first | exact Drawn0.refl _ | apply Drawn0.step)⟩
    · rw [if_neg c3] at H
      have c3b0 : (a0 == 2) = false := beq_eq_false_iff_ne.mpr c3
      have c3b1 : (a0 != 2) = true := bne_iff_ne.mpr c3
      by_cases c4 : a0 = 3
      · rw [if_pos c4] at H
        have c4b0 : (a0 == 3) = true := beq_iff_eq.mpr c4
        have c4b1 : (a0 != 3) = false := bne_eq_false_iff_eq.mpr c4
        clear c4
        simp only [Option.some.injEq, Prod.mk.injEq] at H
        obtain ⟨rfl, rfl⟩ := H
        go_enter Tryd.func18, Tryd.ntmps18
        go_wp2
        go_ret2
        exact ⟨by first | rfl | (simp; done) | (simp [*]; done), by repeat (first | exact Drawn0.refl _ | apply Drawn0.step)⟩
      · rw [if_neg c4] at H
        have c4b0 : (a0 == 3) = false := beq_eq_false_iff_ne.mpr c4
        have c4b1 : (a0 != 3) = true := bne_iff_ne.mpr c4
        by_cases c5 : a0 = 4
        · rw [if_pos c5] at H
          have c5b0 : (a0 == 4) = true := beq_iff_eq.mpr c5
          have c5b1 : (a0 != 4) = false := bne_eq_false_iff_eq.mpr c5
          clear c5
          simp only [Option.some.injEq, Prod.mk.injEq] at H
          obtain ⟨rfl, rfl⟩ := H
          go_enter Tryd.func18, Tryd.ntmps18
          go_wp2
          go_ret2
          exact ⟨by first | rfl | (simp; done) | (simp [*]; done), by repeat (first | exact Drawn0.refl _ | apply Drawn0.step)⟩
        · rw [if_neg c5] at H
          have c5b0 : (a0 == 4) = false := beq_eq_false_iff_ne.mpr c5
          have c5b1 : (a0 != 4) = true := bne_iff_ne.mpr c5
          by_cases c6 : a0 = 5
          · rw [if_pos c6] at H
            have c6b0 : (a0 == 5) = true := beq_iff_eq.mpr c6
            have c6b1 : (a0 != 5) = false := bne_eq_false_iff_eq.mpr c6
            clear c6
            simp only [Option.some.injEq, Prod.mk.injEq] at H
            obtain ⟨rfl, rfl⟩ := H
            go_enter Tryd.func18, Tryd.ntmps18
            go_wp2
            go_ret2
            exact ⟨by first | rfl | (simp; done) | (simp [*]; done), by repeat (first | exact Drawn0.refl _ | apply Drawn0.step)⟩
          · rw [if_neg c6] at H
            have c6b0 : (a0 == 5) = false := beq_eq_false_iff_ne.mpr c6
            have c6b1 : (a0 != 5) = true := bne_iff_ne.mpr c6
            by_cases c7 : a0 = 6
            · rw [if_pos c7] at H
              have c7b0 : (a0 == 6) = true := beq_iff_eq.mpr c7
              have c7b1 : (a0 != 6) = false := bne_eq_false_iff_eq.mpr c7
              clear c7
              simp only [Option.some.injEq, Prod.mk.injEq] at H
              obtain ⟨rfl, rfl⟩ := H
              go_enter Tryd.func18, Tryd.ntmps18
              go_wp2
              go_ret2
              exact ⟨by first | rfl | (simp; done) | (simp [*]; done), by repeat (first | exact Drawn0.refl _ | apply Drawn0.step)⟩
            · rw [if_neg c7] at H
              have c7b0 : (a0 == 6) = false := beq_eq_false_iff_ne.mpr c7
              have c7b1 : (a0 != 6) = true := bne_iff_ne.mpr c7
              by_cases c8 : a0 = 7
              · rw [if_pos c8] at H
                have c8b0 : (a0 == 7) = true := beq_iff_eq.mpr c8
                have c8b1 : (a0 != 7) = false := bne_eq_false_iff_eq.mpr c8
                clear c8
                simp only [Option.some.injEq, Prod.mk.injEq] at H
                obtain ⟨rfl, rfl⟩ := H
                go_enter Tryd.func18, Tryd.ntmps18
                go_wp2
                go_ret2
                exact ⟨by first | rfl | (simp; done) | (simp [*]; done), by repeat (first | exact Drawn0.refl _ | apply Drawn0.step)⟩
              · rw [if_neg c8] at H
                have c8b0 : (a0 == 7) = false := beq_eq_false_iff_ne.mpr c8
                have c8b1 : (a0 != 7) = true := bne_iff_ne.mpr c8
                by_cases c9 : a0 = 8
                · rw [if_pos c9] at H
                  have c9b0 : (a0 == 8) = true := beq_iff_eq.mpr c9
                  have c9b1 : (a0 != 8) = false := bne_eq_false_iff_eq.mpr c9
                  clear c9
                  simp only [Option.some.injEq, Prod.mk.injEq] at H
                  obtain ⟨rfl, rfl⟩ := H
                  go_enter Tryd.func18, Tryd.ntmps18
                  go_wp2
                  go_ret2
                  exact ⟨by first | rfl | (simp; done) | (simp [*]; done), by repeat (first | exact Drawn0.refl _ | apply Drawn0.step)⟩
                · rw [if_neg c9] at H
                  have c9b0 : (a0 == 8) = false := beq_eq_false_iff_ne.mpr c9
                  have c9b1 : (a0 != 8) = true := bne_iff_ne.mpr c9
                  by_cases c10 : a0 = 9
                  · rw [if_pos c10] at H
                    have c10b0 : (a0 == 9) = true := beq_iff_eq.mpr c10
                    have c10b1 : (a0 != 9) = false := bne_eq_false_iff_eq.mpr c10
                    clear c10
                    simp only [Option.some.injEq, Prod.mk.injEq] at H
                    obtain ⟨rfl, rfl⟩ := H
                    go_enter Tryd.func18, Tryd.ntmps18
                    go_wp2
                    go_ret2
                    exact ⟨by first | rfl | (simp; done) | (simp [*]; done), by repeat (first | exact Drawn0.refl _ | apply Drawn0.step)⟩
                  · rw [if_neg c10] at H
                    have c10b0 : (a0 == 9) = false := beq_eq_false_iff_ne.mpr c10
                    have c10b1 : (a0 != 9) = true := bne_iff_ne.mpr c10
                    by_cases c11 : a0 = 10
                    · rw [if_pos c11] at H
                      have c11b0 : (a0 == 10) = true := beq_iff_eq.mpr c11
                      have c11b1 : (a0 != 10) = false := bne_eq_false_iff_eq.mpr c11
                      clear c11
                      simp only [Option.some.injEq, Prod.mk.injEq] at H
                      obtain ⟨rfl, rfl⟩ := H
                      go_enter Tryd.func18, Tryd.ntmps18
                      go_wp2
                      go_ret2
                      exact ⟨by first | rfl | (simp; done) | (simp [*]; done), by repeat (first | exact Drawn0.refl _ | apply Drawn0.step)⟩
                    · rw [if_neg c11] at H
                      have c11b0 : (a0 == 10) = false := beq_eq_false_iff_ne.mpr c11
                      have c11b1 : (a0 != 10) = true := bne_iff_ne.mpr c11
                      by_cases c12 : a0 = 11
                      · rw [if_pos c12] at H
                        have c12b0 : (a0 == 11) = true := beq_iff_eq.mpr c12
                        have c12b1 : (a0 != 11) = false := bne_eq_false_iff_eq.mpr c12
                        clear c12
                        simp only [Option.some.injEq, Prod.mk.injEq] at H
                        obtain ⟨rfl, rfl⟩ := H
                        go_enter Tryd.func18, Tryd.ntmps18
                        go_wp2
                        go_ret2
                        exact ⟨by first | rfl | (simp; done) | (simp [*]; done), by repeat (first | exact Drawn0.refl _ | apply Drawn0.step)⟩
                      · rw [if_neg c12] at H
                        have c12b0 : (a0 == 11) = false := beq_eq_false_iff_ne.mpr c12
                        have c12b1 : (a0 != 11) = true := bne_iff_ne.mpr c12
                        by_cases c13 : a0 = 12
                        · rw [if_pos c13] at H
                          have c13b0 : (a0 == 12) = true := beq_iff_eq.mpr c13
                          have c13b1 : (a0 != 12) = false := bne_eq_false_iff_eq.mpr c13
                          clear c13
                          simp only [Option.some.injEq, Prod.mk.injEq] at H
                          obtain ⟨rfl, rfl⟩ := H
                          go_enter Tryd.func18, Tryd.ntmps18
                          go_wp2
                          go_ret2
                          exact ⟨by first | rfl | (simp; done) | (simp [*]; done), by repeat (first | exact Drawn0.refl _ | apply Drawn0.step)⟩
                        · rw [if_neg c13] at H
                          have c13b0 : (a0 == 12) = false := beq_eq_false_iff_ne.mpr c13
                          have c13b1 : (a0 != 12) = true := bne_iff_ne.mpr c13
                          by_cases c14 : a0 = 13
                          · rw [if_pos c14] at H
                            have c14b0 : (a0 == 13) = true := beq_iff_eq.mpr c14
                            have c14b1 : (a0 != 13) = false := bne_eq_false_iff_eq.mpr c14
                            clear c14
                            simp only [Option.some.injEq, Prod.mk.injEq] at H
                            obtain ⟨rfl, rfl⟩ := H
                            go_enter Tryd.func18, Tryd.ntmps18
                            go_wp2
                            go_ret2
                            exact ⟨by first | rfl | (simp; done) | (simp [*]; done), by repeat (first | exact Drawn0.refl _ | apply Drawn0.step)⟩
                          · rw [if_neg c14] at H
                            have c14b0 : (a0 == 13) = false := beq_eq_false_iff_ne.mpr c14
                            have c14b1 : (a0 != 13) = true := bne_iff_ne.mpr c14
                            simp only [Option.some.injEq, Prod.mk.injEq] at H
                            obtain ⟨rfl, rfl⟩ := H
                            go_enter Tryd.func18, Tryd.ntmps18
                            go_wp2
                            go_ret2
                            exact ⟨by first | rfl | (simp; done) | (simp [*]; done), by repeat (first | exact Drawn0.refl _ | apply Drawn0.step)⟩

/-! ### backfillref08_named: function 19 -/
def backfillref08_named.f (a0 : Int) : Option (Bool) := if a0 = 78 then (some true) else (some (a0 == 80))
set_option maxHeartbeats 8000000 in
set_option maxRecDepth 100000 in
theorem backfillref08_named.calls (a0 : Int) (r : Bool) (w : World) (h : backfillref08_named.f a0 = some r) :
    Calls Tryd.prog 19 #[.int .u8 a0] w fun e w' => e = .returned (.bool r) ∧ Drawn0 w w' := by
  have H : (if a0 = 78 then (some true) else (some (a0 == 80))) = some r := h
  clear h
  by_cases c2 : a0 = 78
  · rw [if_pos c2] at H
    have c2b0 : (a0 == 78) = true := beq_iff_eq.mpr c2
    have c2b1 : (a0 != 78) = false := bne_eq_false_iff_eq.mpr c2
    clear c2
    obtain rfl := Option.some.inj H
    go_enter Tryd.func19, Tryd.ntmps19
    go_wp2
    go_ret
    exact ⟨by first | rfl | (simp; done) | (simp [*]; done), by repeat (first | exact Drawn0.refl _ | apply Drawn0.step)⟩
  · rw [if_neg c2] at H
    have c2b0 : (a0 == 78) = false := beq_eq_false_iff_ne.mpr c2
    have c2b1 : (a0 != 78) = true := bne_iff_ne.mpr c2
    obtain rfl := Option.some.inj H
    go_enter Tryd.func19, Tryd.ntmps19
    go_wp2
    go_ret
    exact ⟨by first | rfl | (simp; done) | (simp [*]; done), by repeat (first | exact Drawn0.refl _ | apply Drawn0.step)⟩

-- NOT PRINTED: function 20 (backfillref08_text)

/-! ### backfillref08_number: function 21 -/
mutual
def backfillref08_number.j0 : Nat → ByteArray → Bool → Option (Int × Bool)
  | 0, _, _ => none
  | k + 1, x0, x24 => if x24 = true then (some (0, false)) else (backfillref08_number.l0 k x0 0 0)
def backfillref08_number.l0 : Nat → ByteArray → Int → Int → Option (Int × Bool)
  | 0, _, _, _ => none
  | k + 1, x0, x4, x5 => if x5 < (x0.size : Int) then (if 0 ≤ x5 then (if (bt x0 x5) < 48 then (backfillref08_number.j2 k x0 x4 x5 true) else (backfillref08_number.j2 k x0 x4 x5 (decide ((bt x0 x5) > 57)))) else (none)) else (some (x4, true))
def backfillref08_number.j2 : Nat → ByteArray → Int → Int → Bool → Option (Int × Bool)
  | 0, _, _, _, _ => none
  | k + 1, x0, x4, x5, x40 => if x40 = true then (some (0, false)) else (if 0 ≤ x5 then (if x5 < (x0.size : Int) then (if x4 > ((9223372036854775807 - (((bt x0 x5) - 48) % 256)) / 10) then (some (0, false)) else (backfillref08_number.l0 k x0 (wrap64 ((wrap64 (10 * x4)) + (((bt x0 x5) - 48) % 256))) (wrap64 (x5 + 1)))) else (none)) else (none))
end
def backfillref08_number.f (k : Nat) (a0 : ByteArray) : Option (Int × Bool) := if (a0.size : Int) < 1 then (backfillref08_number.j0 k a0 true) else (if (a0.size : Int) > 19 then (backfillref08_number.j0 k a0 true) else (if (a0.size : Int) > 1 then (if 0 < (a0.size : Int) then (backfillref08_number.j0 k a0 ((bt a0 0) == 48)) else (none)) else (backfillref08_number.j0 k a0 false)))
theorem backfillref08_number.mono_l : ∀ k, (∀ y0 y1, LeO (backfillref08_number.j0 k y0 y1) (backfillref08_number.j0 (k + 1) y0 y1)) ∧ (∀ y0 y1 y2, LeO (backfillref08_number.l0 k y0 y1 y2) (backfillref08_number.l0 (k + 1) y0 y1 y2)) ∧ (∀ y0 y1 y2 y3, LeO (backfillref08_number.j2 k y0 y1 y2 y3) (backfillref08_number.j2 (k + 1) y0 y1 y2 y3))
  | 0 => ⟨fun _ _ r h => by simp [backfillref08_number.j0] at h, fun _ _ _ r h => by simp [backfillref08_number.l0] at h, fun _ _ _ _ r h => by simp [backfillref08_number.j2] at h⟩
  | k + 1 => by
    obtain ⟨ih0, ih1, ih2⟩ := backfillref08_number.mono_l k
    refine ⟨?_, ?_, ?_⟩
    · intro y0 y1
      unfold backfillref08_number.j0
      repeat' first
      | (with_reducible exact ih0 _ _)
      | (with_reducible exact ih1 _ _ _)
      | (with_reducible exact ih2 _ _ _ _)
      | (with_reducible exact LeO.refl _)
      | (with_reducible exact LeO.none _)
      | (with_reducible refine LeO.ite ?_ ?_)
      | (with_reducible refine LeO.bind ?_ (fun _ => ?_))
      | exact ih0 _ _
      | exact ih1 _ _ _
      | exact ih2 _ _ _ _
      | exact LeO.none _
      | refine LeO.ite ?_ ?_
      | refine LeO.bind ?_ (fun _ => ?_)
    · intro y0 y1 y2
      unfold backfillref08_number.l0
      repeat' first
      | (with_reducible exact ih0 _ _)
      | (with_reducible exact ih1 _ _ _)
      | (with_reducible exact ih2 _ _ _ _)
      | (with_reducible exact LeO.refl _)
      | (with_reducible exact LeO.none _)
      | (with_reducible refine LeO.ite ?_ ?_)
      | (with_reducible refine LeO.bind ?_ (fun _ => ?_))
      | exact ih0 _ _
      | exact ih1 _ _ _
      | exact ih2 _ _ _ _
      | exact LeO.none _
      | refine LeO.ite ?_ ?_
      | refine LeO.bind ?_ (fun _ => ?_)
    · intro y0 y1 y2 y3
      unfold backfillref08_number.j2
      repeat' first
      | (with_reducible exact ih0 _ _)
      | (with_reducible exact ih1 _ _ _)
      | (with_reducible exact ih2 _ _ _ _)
      | (with_reducible exact LeO.refl _)
      | (with_reducible exact LeO.none _)
      | (with_reducible refine LeO.ite ?_ ?_)
      | (with_reducible refine LeO.bind ?_ (fun _ => ?_))
      | exact ih0 _ _
      | exact ih1 _ _ _
      | exact ih2 _ _ _ _
      | exact LeO.none _
      | refine LeO.ite ?_ ?_
      | refine LeO.bind ?_ (fun _ => ?_)
theorem backfillref08_number.mono : ∀ a0 k, LeO (backfillref08_number.f k a0) (backfillref08_number.f (k + 1) a0) := by
  intro a0 k
  obtain ⟨ih0, ih1, ih2⟩ := backfillref08_number.mono_l k
  unfold backfillref08_number.f
  repeat' first
      | (with_reducible exact ih0 _ _)
      | (with_reducible exact ih1 _ _ _)
      | (with_reducible exact ih2 _ _ _ _)
      | (with_reducible exact LeO.refl _)
      | (with_reducible exact LeO.none _)
      | (with_reducible refine LeO.ite ?_ ?_)
      | (with_reducible refine LeO.bind ?_ (fun _ => ?_))
      | exact ih0 _ _
      | exact ih1 _ _ _
      | exact ih2 _ _ _ _
      | exact LeO.none _
      | refine LeO.ite ?_ ?_
      | refine LeO.bind ?_ (fun _ => ?_)
set_option maxHeartbeats 8000000 in
set_option maxRecDepth 100000 in
theorem backfillref08_number.calls (k : Nat) (a0 : ByteArray) (r1 : Int) (r2 : Bool) (w : World) (h : backfillref08_number.f k a0 = some (r1, r2)) :
    Calls Tryd.prog 21 #[.string a0] w fun e w' => e = .returned (.tuple #[.int .i64 r1, .bool r2]) ∧ Drawn0 w w' := by
  have H : (if (a0.size : Int) < 1 then (backfillref08_number.j0 k a0 true) else (if (a0.size : Int) > 19 then (backfillref08_number.j0 k a0 true) else (if (a0.size : Int) > 1 then (if 0 < (a0.size : Int) then (backfillref08_number.j0 k a0 ((bt a0 0) == 48)) else (none)) else (backfillref08_number.j0 k a0 false)))) = some (r1, r2) := h
  clear h
  have HC2 := Aside0.mk H
  clear H
  go_enter Tryd.func21, Tryd.ntmps21
  go_upto_region 1 with (fail)
  go_cut [24] (fun v24 wc => ∃ (kq : Nat) (x24_1 : Bool), v24 = .bool x24_1 ∧ Aside0 (backfillref08_number.j0 kq a0 x24_1 = some (r1, r2)) ∧ Aside0 (kq ≤ k) ∧ Drawn0 w wc)
  case first =>
    have H := HC2.out
    clear HC2
    by_cases c3 : (a0.size : Int) < 1
    · rw [if_pos c3] at H
      have c3b0 : decide ((a0.size : Int) < 1) = true := decide_eq_true c3
      have c3b1 : decide (a0.size < 1) = true := decide_eq_true (by omega)
      clear c3
      (first | rw [c3b0] | (simp only [i64_w, i32_w]; rw [c3b0]) | skip)
      have H' := Aside0.mk H
      clear H
      go_wp2
      go_meet
      case rel => exact ⟨_, (true), (by first | rfl | (simp; done) | (simp [*]; done)), H', ⟨by first | omega | exact Nat.le_refl _⟩, by repeat (first | exact Drawn0.refl _ | apply Drawn0.step)⟩
    · rw [if_neg c3] at H
      have c3b0 : decide ((a0.size : Int) < 1) = false := decide_eq_false c3
      have c3b1 : decide (a0.size < 1) = false := decide_eq_false (by omega)
      clear c3
      (first | rw [c3b0] | (simp only [i64_w, i32_w]; rw [c3b0]) | skip)
      by_cases c4 : (a0.size : Int) > 19
      · rw [if_pos c4] at H
        have c4b0 : decide (19 < (a0.size : Int)) = true := decide_eq_true c4
        have c4b1 : decide (19 < a0.size) = true := decide_eq_true (by omega)
        clear c4
        have H' := Aside0.mk H
        clear H
        go_wp2
        go_meet
        case rel => exact ⟨_, (true), (by first | rfl | (simp; done) | (simp [*]; done)), H', ⟨by first | omega | exact Nat.le_refl _⟩, by repeat (first | exact Drawn0.refl _ | apply Drawn0.step)⟩
      · rw [if_neg c4] at H
        have c4b0 : decide (19 < (a0.size : Int)) = false := decide_eq_false c4
        have c4b1 : decide (19 < a0.size) = false := decide_eq_false (by omega)
        clear c4
        by_cases c5 : (a0.size : Int) > 1
        · rw [if_pos c5] at H
          have c5b0 : decide (1 < (a0.size : Int)) = true := decide_eq_true c5
          have c5b1 : decide (1 < a0.size) = true := decide_eq_true (by omega)
          clear c5
          by_cases c6 : 0 < (a0.size : Int)
          · rw [if_pos c6] at H
            have c6b0 : decide (0 < (a0.size : Int)) = true := decide_eq_true c6
            have c6b1 : decide (0 < a0.size) = true := decide_eq_true (by omega)
            clear c6
            have H' := Aside0.mk H
            clear H
            have p7 : 0 ≤ (0 : Int) := (by omega)
            have q7 : 0 < a0.size := (by have : (0 : Int) < (a0.size : Int) := of_decide_eq_true (by first | (with_reducible assumption) | assumption); omega)
            have hx7 : ∀ h : 0 < a0.size, ((a0[0]'h).toNat : Int) = bt a0 0 := bt_at a0 0
            clear p7
            have qi7 : (0 < (a0.size : Int)) = True := eq_true (of_decide_eq_true (by first | (with_reducible assumption) | assumption))
            replace q7 := eq_true q7
            go_wp2
            go_meet
            case rel => exact ⟨_, (((bt a0 0) == 48)), (by first | rfl | (simp; done) | (simp [*]; done)), H', ⟨by first | omega | exact Nat.le_refl _⟩, by repeat (first | exact Drawn0.refl _ | apply Drawn0.step)⟩
          · rw [if_neg c6] at H
            exact absurd H (by simp)
        · rw [if_neg c5] at H
          have c5b0 : decide (1 < (a0.size : Int)) = false := decide_eq_false c5
          have c5b1 : decide (1 < a0.size) = false := decide_eq_false (by omega)
          clear c5
          have H' := Aside0.mk H
          clear H
          go_wp2
          go_meet
          case rel => exact ⟨_, (false), (by first | rfl | (simp; done) | (simp [*]; done)), H', ⟨by first | omega | exact Nat.le_refl _⟩, by repeat (first | exact Drawn0.refl _ | apply Drawn0.step)⟩
  case rest =>
    clear HC2
    try clear c2
    try clear p2
    try clear c3
    try clear c3b0
    try clear c3b1
    try clear c4
    try clear c4b0
    try clear c4b1
    try clear c5
    try clear c5b0
    try clear c5b1
    try clear c6
    try clear c6b0
    try clear c6b1
    try clear p7
    try clear q7
    try clear hx7
    try clear qi7
    try clear p7
    try clear q7
    obtain ⟨kq, x24_1, rfl, HA, HJ1, ⟨mc1, rfl⟩⟩ := hcut
    cases kq with
    | zero => exact absurd HA.out (by simp [backfillref08_number.j0])
    | succ kj1 =>
      have H := HA.out
      clear HA
      simp only [backfillref08_number.j0] at H
      by_cases c8 : x24_1 = true
      · subst c8
        have H1 : (some (0, false)) = some (r1, r2) := by rw [if_pos rfl] at H; exact H
        clear H
        have H := H1
        clear H1
        simp only [Option.some.injEq, Prod.mk.injEq] at H
        obtain ⟨rfl, rfl⟩ := H
        go_wp2
        go_ret2
        exact ⟨by first | rfl | (simp; done) | (simp [*]; done), by repeat (first | exact Drawn0.refl _ | apply Drawn0.step)⟩
      · replace c8 := Bool.eq_false_iff.mpr c8
        subst c8
        have H1 : (backfillref08_number.l0 kj1 a0 0 0) = some (r1, r2) := by rw [if_neg (show ¬ (false = true) by decide)] at H; exact H
        clear H
        have H := H1
        clear H1
        have H' := Aside0.mk H
        clear H
        go_wp2
        go_loopg [4, 5] kj1 (fun kq v4 v5 w' => ∃ (x4_2 : Int) (x5_2 : Int), v4 = .int .i64 x4_2 ∧ v5 = .int .i64 x5_2 ∧ Aside0 (backfillref08_number.l0 kq a0 x4_2 x5_2 = some (r1, r2)) ∧ Aside0 (kq ≤ kj1) ∧ Drawn0 w w')
        case atStart => exact ⟨(0), (0), (by first | rfl | (simp; done) | (simp [*]; done)), (by first | rfl | (simp; done) | (simp [*]; done)), H', ⟨Nat.le_refl _⟩, by repeat (first | exact Drawn0.refl _ | apply Drawn0.step)⟩
        case round =>
          clear H'
          try clear c1
          try clear c2
          try clear p2
          try clear c3
          try clear c3b0
          try clear c3b1
          try clear c4
          try clear c4b0
          try clear c4b1
          try clear c5
          try clear c5b0
          try clear c5b1
          try clear c6
          try clear c6b0
          try clear c6b1
          try clear p7
          try clear q7
          try clear hx7
          try clear qi7
          try clear c8
          try clear p2
          try clear p7
          try clear q7
          obtain ⟨x4_2, x5_2, rfl, rfl, HA, HK2, ⟨m2, rfl⟩⟩ := hrel
          cases gk with
          | zero => exact absurd HA.out (by simp [backfillref08_number.l0])
          | succ k2 =>
            have H := HA.out
            clear HA
            simp only [backfillref08_number.l0] at H
            by_cases c9 : x5_2 < (a0.size : Int)
            · rw [if_pos c9] at H
              have c9b0 : decide (x5_2 < (a0.size : Int)) = true := decide_eq_true c9
              clear c9
              have HC10 := Aside0.mk H
              clear H
              go_upto_region 7 with (fail)
              go_cut [40] (fun v40 wc => ∃ (kq : Nat) (x40_9 : Bool), v40 = .bool x40_9 ∧ Aside0 (backfillref08_number.j2 kq a0 x4_2 x5_2 x40_9 = some (r1, r2)) ∧ Aside0 (kq ≤ k2) ∧ Drawn0 w wc)
              case first =>
                have H := HC10.out
                clear HC10
                by_cases c11 : 0 ≤ x5_2
                · rw [if_pos c11] at H
                  have c11b0 : decide (0 ≤ x5_2) = true := decide_eq_true c11
                  clear c11
                  (first | rw [c11b0] | (simp only [i64_w, i32_w]; rw [c11b0]) | skip)
                  by_cases c13 : (bt a0 x5_2) < 48
                  · rw [if_pos c13] at H
                    have c13b0 : decide ((bt a0 x5_2) < 48) = true := decide_eq_true c13
                    clear c13
                    have H' := Aside0.mk H
                    clear H
                    have p12 : 0 ≤ (x5_2 : Int) := of_decide_eq_true (by first | (with_reducible assumption) | assumption)
                    have q12 : x5_2 < (a0.size : Int) := of_decide_eq_true (by first | (with_reducible assumption) | assumption)
                    have hx12 := bt_at a0 x5_2
                    replace p12 := eq_true p12
                    replace q12 := eq_true q12
                    go_wp2
                    go_meet
                    case rel => exact ⟨_, (true), (by first | rfl | (simp; done) | (simp [*]; done)), H', ⟨by have := HJ1.out; have := HK2.out; first | omega | exact Nat.le_refl _⟩, by repeat (first | exact Drawn0.refl _ | apply Drawn0.step)⟩
                  · rw [if_neg c13] at H
                    have c13b0 : decide ((bt a0 x5_2) < 48) = false := decide_eq_false c13
                    clear c13
                    have H' := Aside0.mk H
                    clear H
                    have p12 : 0 ≤ (x5_2 : Int) := of_decide_eq_true (by first | (with_reducible assumption) | assumption)
                    have q12 : x5_2 < (a0.size : Int) := of_decide_eq_true (by first | (with_reducible assumption) | assumption)
                    have hx12 := bt_at a0 x5_2
                    replace p12 := eq_true p12
                    replace q12 := eq_true q12
                    have p14 : 0 ≤ (x5_2 : Int) := of_decide_eq_true (by first | (with_reducible assumption) | assumption)
                    have q14 : x5_2 < (a0.size : Int) := of_decide_eq_true (by first | (with_reducible assumption) | assumption)
                    have hx14 := bt_at a0 x5_2
                    replace p14 := eq_true p14
                    replace q14 := eq_true q14
                    go_wp2
                    go_meet
                    case rel => exact ⟨_, (decide ((bt a0 x5_2) > 57)), (by first | rfl | (simp; done) | (simp [*]; done)), H', ⟨by have := HJ1.out; have := HK2.out; first | omega | exact Nat.le_refl _⟩, by repeat (first | exact Drawn0.refl _ | apply Drawn0.step)⟩
                · rw [if_neg c11] at H
                  exact absurd H (by simp)
              case rest =>
                clear HC10
                try clear c1
                try clear p1
                try clear q1
                try clear hx1
                try clear c2
                try clear p2
                try clear c3
                try clear c3b0
                try clear c3b1
                try clear c4
                try clear c4b0
                try clear c4b1
                try clear c5
                try clear c5b0
                try clear c5b1
                try clear c6
                try clear c6b0
                try clear c6b1
                try clear p7
                try clear q7
                try clear hx7
                try clear qi7
                try clear c8
                try clear c9
                try clear c9b0
                try clear c11
                try clear c11b0
                try clear p12
                try clear q12
                try clear hx12
                try clear c13
                try clear c13b0
                try clear p14
                try clear q14
                try clear hx14
                try clear p12
                try clear p14
                try clear p2
                try clear p7
                try clear q12
                try clear q14
                try clear q7
                obtain ⟨kq, x40_9, rfl, HA, HJ9, ⟨mc9, rfl⟩⟩ := hcut
                cases kq with
                | zero => exact absurd HA.out (by simp [backfillref08_number.j2])
                | succ kj9 =>
                  have H := HA.out
                  clear HA
                  simp only [backfillref08_number.j2] at H
                  by_cases c15 : x40_9 = true
                  · subst c15
                    have H1 : (some (0, false)) = some (r1, r2) := by rw [if_pos rfl] at H; exact H
                    clear H
                    have H := H1
                    clear H1
                    simp only [Option.some.injEq, Prod.mk.injEq] at H
                    obtain ⟨rfl, rfl⟩ := H
                    go_wp2
                    go_ret2
                    exact ⟨by first | rfl | (simp; done) | (simp [*]; done), by repeat (first | exact Drawn0.refl _ | apply Drawn0.step)⟩
                  · replace c15 := Bool.eq_false_iff.mpr c15
                    subst c15
                    have H1 : (if 0 ≤ x5_2 then (if x5_2 < (a0.size : Int) then (if x4_2 > ((9223372036854775807 - (((bt a0 x5_2) - 48) % 256)) / 10) then (some (0, false)) else (backfillref08_number.l0 kj9 a0 (wrap64 ((wrap64 (10 * x4_2)) + (((bt a0 x5_2) - 48) % 256))) (wrap64 (x5_2 + 1)))) else (none)) else (none)) = some (r1, r2) := by rw [if_neg (show ¬ (false = true) by decide)] at H; exact H
                    clear H
                    have H := H1
                    clear H1
                    by_cases c16 : 0 ≤ x5_2
                    · rw [if_pos c16] at H
                      have c16b0 : decide (0 ≤ x5_2) = true := decide_eq_true c16
                      clear c16
                      by_cases c17 : x5_2 < (a0.size : Int)
                      · rw [if_pos c17] at H
                        have c17b0 : decide (x5_2 < (a0.size : Int)) = true := decide_eq_true c17
                        clear c17
                        by_cases c19 : x4_2 > ((9223372036854775807 - (((bt a0 x5_2) - 48) % 256)) / 10)
                        · rw [if_pos c19] at H
                          have c19b0 : decide (((9223372036854775807 - (((bt a0 x5_2) - 48) % 256)) / 10) < x4_2) = true := decide_eq_true c19
                          clear c19
                          simp only [Option.some.injEq, Prod.mk.injEq] at H
                          obtain ⟨rfl, rfl⟩ := H
                          have p18 : 0 ≤ (x5_2 : Int) := of_decide_eq_true (by first | (with_reducible assumption) | assumption)
                          have q18 : x5_2 < (a0.size : Int) := of_decide_eq_true (by first | (with_reducible assumption) | assumption)
                          have hx18 := bt_at a0 x5_2
                          replace p18 := eq_true p18
                          replace q18 := eq_true q18
                          go_wp2
                          go_ret2
                          exact ⟨by first | rfl | (simp; done) | (simp [*]; done), by repeat (first | exact Drawn0.refl _ | apply Drawn0.step)⟩
                        · rw [if_neg c19] at H
                          have c19b0 : decide (((9223372036854775807 - (((bt a0 x5_2) - 48) % 256)) / 10) < x4_2) = false := decide_eq_false c19
                          clear c19
                          have H' := Aside0.mk H
                          clear H
                          have p18 : 0 ≤ (x5_2 : Int) := of_decide_eq_true (by first | (with_reducible assumption) | assumption)
                          have q18 : x5_2 < (a0.size : Int) := of_decide_eq_true (by first | (with_reducible assumption) | assumption)
                          have hx18 := bt_at a0 x5_2
                          replace p18 := eq_true p18
                          replace q18 := eq_true q18
                          go_wp2
                          go_roundg kj9
                          case measure => have := HJ1.out; have := HK2.out; have := HJ9.out; omega
                          case rel => exact ⟨(wrap64 ((wrap64 (10 * x4_2)) + (((bt a0 x5_2) - 48) % 256))), (wrap64 (x5_2 + 1)), (by first | rfl | (simp; done) | (simp [*]; done)), (by first | rfl | (simp; done) | (simp [*]; done)), H', ⟨by have := HJ1.out; have := HK2.out; have := HJ9.out; omega⟩, by repeat (first | exact Drawn0.refl _ | apply Drawn0.step)⟩
                      · rw [if_neg c17] at H
                        exact absurd H (by simp)
                    · rw [if_neg c16] at H
                      exact absurd H (by simp)
            · rw [if_neg c9] at H
              have c9b0 : decide (x5_2 < (a0.size : Int)) = false := decide_eq_false c9
              clear c9
              simp only [Option.some.injEq, Prod.mk.injEq] at H
              obtain ⟨rfl, rfl⟩ := H
              go_wp2
              go_ret2
              exact ⟨by first | rfl | (simp; done) | (simp [*]; done), by repeat (first | exact Drawn0.refl _ | apply Drawn0.step)⟩

-- NOT PRINTED: function 22 (backfillref08_value)

-- NOT PRINTED: function 7 (backfillref08_Parse)

-- NOT PRINTED: function 3 (backfilllaw08_VerbsReads)

end Go.Proofs.YtamimpomeigllaaDoor.PVerbsReads
