/- Own text: the walks of the reference's Check and Print. -/
import Derived.Test.YtamimpomeigllaaDoorD2
namespace Go.Proofs.YtamimpomeigllaaDoor.V
open Go.RowKit Go.Proofs.YtamimpomeigllaaDoorW.PrintWords Go.Proofs.YtamimpomeigllaaDoor.PVerbsReads

theorem vat_nonempty (k : Nat) (hk : k < 13) : (vat k).f1.toList ≠ [] := by
  have : ∀ k : Fin 13, (vat k.val).f1.size ≠ 0 := by decide
  intro h
  refine this ⟨k, hk⟩ ?_
  show (vat k).f1.size = 0
  rw [← data_length, ← toList_data, h]; rfl

theorem rcheck_none (c : Cmd) (w : World) (h : ∀ k : Nat, k < 13 → c.kind ≠ (k : Int) + 1) : Calls Tryd.prog 13 #[.agg (cells c)] w (CheckPost 84 w) := by
  have hc0 := alloc_cmd (w := w) rfl c
  have c0 := (cmd_cells hc0).1
  have H := Lib.hid (word_not c.kind h)
  have he : (⟨#[]⟩ : ByteArray).toList.isEmpty = true := by rw [toList_data]; rfl
  clear hc0 h
  go_enter Tryd.func13, Tryd.ntmps13
  go_wp2_with (go_at_call 18; refine (H.out _).mono ?_; rintro e w4 ⟨rfl, ⟨⟨n1, rfl⟩⟩⟩)
  go_ret
  exact ⟨rfl, pw_below_drewN ((Below.refl _ _).alloc (Nat.le_refl _) _) _⟩

set_option maxHeartbeats 8000000 in
set_option maxRecDepth 100000 in
theorem rcheck_some (c : Cmd) (w : World) (k : Nat) (hk : k < 13) (h : c.kind = (k : Int) + 1) : Calls Tryd.prog 13 #[.agg (cells c)] w (CheckPost (checkP c) w) := by
  have hP := checkP_kind c k hk h
  have hc0 := alloc_cmd (w := w) rfl c
  obtain ⟨c0, c1, c2, c3, c4, c5, c6, c7, cf⟩ := cmd_cells hc0
  have hwk := word_any k hk
  rw [← h] at hwk
  have HWK := Lib.hid hwk
  have hne := vat_nonempty k hk
  have hfs := form_size k
  have hfl := vat_len k hk
  have hbtA := form_at k
  obtain ⟨wd, hwd⟩ : ∃ wd, wd = (vat k).f1 := ⟨_, rfl⟩
  obtain ⟨fl, hfle⟩ : ∃ fl, fl = (vat k).f2 := ⟨_, rfl⟩
  obtain ⟨fm, hfm⟩ : ∃ fm, fm = formOf k := ⟨_, rfl⟩
  rw [← hwd, ← hfm] at HWK
  rw [← hwd] at hne
  rw [← hfle, ← hfm] at hfs hbtA
  rw [← hfle] at hfl hP
  have hfs1 : fm.size ≤ fl.length := by omega
  have hfs2 : fl.length ≤ fm.size := by omega
  have hne1 : wd.toList.isEmpty = false := by simpa using hne
  have HA := Aside0.mk hbtA
  have HP := Aside0.mk hP
  have HC0 := Aside0.mk hc0
  clear hc0 h hwk hP hbtA hwd hfle hfm hfs hne
  go_enter Tryd.func13, Tryd.ntmps13
  go_wp2_with (go_at_call 18; refine (HWK.out _).mono ?_; rintro e w4 ⟨rfl, ⟨⟨n1, rfl⟩⟩⟩)
  have HR0 : Aside0 (IsCmd (((w.alloc (.cells (cells c) 24)).drewN n1).alloc (.cells (cells (k0 c)) 24)) (w.heap.size + 1) (k0 c)) := ⟨alloc_cmd (by simp) (k0 c)⟩
  go_loopw [6] (fun i wr => ∃ (i' : Nat) (r : Cmd), i' ≤ fl.length ∧ i = .int .i64 i' ∧ Aside0 (IsCmd wr (w.heap.size + 1) r) ∧ Aside0 (checkP c = rchkF r (fl.drop i')) ∧ Aside0 (Below w.heap.size w wr)) (fun i _ => fl.length - (intOf i).toNat)
  case atStart => exact ⟨0, k0 c, Nat.zero_le _, rfl, HR0, HP, ⟨(pw_below_drewN ((Below.refl _ w).alloc (Nat.le_refl _) _) _).alloc (by simp) _⟩⟩
  case round =>
    clear c0 c1 c2 c3 c4 c5 c6 c7 cf HR0 HC0
    obtain ⟨i, r, hi, rfl, hR, hP, hq⟩ := hrel
    by_cases hil : i < fl.length
    · have hst := hP.out
      rw [List.drop_eq_getElem_cons hil, rchkF] at hst
      obtain ⟨f, hf⟩ : ∃ f, f = fl[i] := ⟨_, rfl⟩
      rw [← hf] at hst
      have hbt0 : ∀ h : i < fm.size, ((fm[i]'h).toNat : Int) = ((letter f).toNat : Int) := by
        have := HA.out i hil
        rw [List.getD_eq_getElem?_getD, List.getElem?_eq_getElem hil] at this
        rw [hf]
        exact this
      have hnm := named_any f
      have htx := rtext_any (w.heap.size + 1) f
      have hvl := rvalue_any (w.heap.size + 1) f
      obtain ⟨L, hL⟩ : ∃ L : Int, L = ((letter f).toNat : Int) := ⟨_, rfl⟩
      rw [← hL] at hbt0 hnm htx hvl
      have HNM := Lib.hid hnm
      have HTX := Lib.hid htx
      have HVL := Lib.hid hvl
      have Hst := Aside0.mk hst
      clear hf hL hst hnm htx hvl hP
      by_cases hT : IsT f
      · have hTd : decide (IsT f) = true := decide_eq_true hT
        rw [hTd] at HNM
        have hcell := txt_cell hR.out f hT
        have hfr := blk_frozen hR.out (tOff f)
        have HTX2 := Lib.hid (HTX.out hT)
        have hst1 := Hst.out
        rw [if_pos hT] at hst1
        obtain ⟨x, hx⟩ : ∃ x, x = getT r f := ⟨_, rfl⟩
        rw [← hx] at hcell hst1
        have HS : ∀ n, Aside0 (IsCmd ((wr.drewN n).setCell ⟨w.heap.size + 1, tOff f, none⟩ (.string ⟨#[]⟩)) (w.heap.size + 1) (setT r f ⟨#[]⟩)) := fun n => ⟨cmd_set (w := wr.drewN n) (c := r) (c' := setT r f ⟨#[]⟩) hR.out (tOff f) (.string ⟨#[]⟩) (setT_cells r f hT _)⟩
        clear hT hTd HTX HVL hx Hst
        by_cases hv : validB x = true
        · have hA2 : Aside0 (checkP c = rchkF (setT r f ⟨#[]⟩) (fl.drop (i + 1))) := ⟨by rw [hst1, if_pos hv]⟩
          clear hst1
          go_wp2_with (first | (go_at_call 19; refine (HNM.out _).mono ?_; rintro e w4 ⟨rfl, ⟨⟨n2, rfl⟩⟩⟩) | (go_at_call 9; refine (rvalid_any _ _).mono ?_; rintro e w4 ⟨rfl, ⟨⟨n3, rfl⟩⟩⟩) | (go_at_call 20; refine (HTX2.out _).mono ?_; rintro e w4 ⟨rfl, rfl⟩))
          go_roundw
          case rel => exact ⟨i + 1, setT r f ⟨#[]⟩, by omega, by go_num, HS (n2 + n3), hA2, ⟨(pw_below_drewN hq.out (n2 + n3)).setCell (p := ⟨w.heap.size + 1, tOff f, none⟩) (Nat.le_succ _) _⟩⟩
          case measure => simp [intOf]; omega
        · have hvF : validB x = false := by simpa using hv
          have hA2 : Aside0 (checkP c = 84) := ⟨by rw [hst1, if_neg hv]⟩
          clear hst1 hv
          go_wp2_with (first | (go_at_call 19; refine (HNM.out _).mono ?_; rintro e w4 ⟨rfl, ⟨⟨n2, rfl⟩⟩⟩) | (go_at_call 9; refine (rvalid_any _ _).mono ?_; rintro e w4 ⟨rfl, ⟨⟨n3, rfl⟩⟩⟩) | (go_at_call 20; refine (HTX2.out _).mono ?_; rintro e w4 ⟨rfl, rfl⟩))
          go_ret
          rw [hA2.out]
          exact ⟨rfl, pw_below_drewN hq.out _⟩
      · have hTd : decide (IsT f) = false := decide_eq_false hT
        rw [hTd] at HNM
        have hcell := num_cell' hR.out f
        have hfr := blk_frozen hR.out (numOff f)
        have HVL2 := Lib.hid (HVL.out hT)
        have hst1 := Hst.out
        rw [if_neg hT] at hst1
        obtain ⟨x, hx⟩ : ∃ x, x = getN r f := ⟨_, rfl⟩
        rw [← hx] at hcell hst1
        have HS : ∀ n, Aside0 (IsCmd ((wr.drewN n).setCell ⟨w.heap.size + 1, numOff f, none⟩ (.int .i64 0)) (w.heap.size + 1) (setN r f 0)) := fun n => ⟨cmd_set (w := wr.drewN n) (c := r) (c' := setN r f 0) hR.out (numOff f) (.int .i64 0) (setN_cells r f _)⟩
        clear hT hTd HTX HVL hx Hst
        by_cases hv : x < 0
        · have hA2 : Aside0 (checkP c = 84) := ⟨by rw [hst1, if_pos hv]⟩
          clear hst1
          go_wp2_with (first | (go_at_call 19; refine (HNM.out _).mono ?_; rintro e w4 ⟨rfl, ⟨⟨n2, rfl⟩⟩⟩) | (go_at_call 22; refine (HVL2.out _).mono ?_; rintro e w4 ⟨rfl, rfl⟩))
          go_ret
          rw [hA2.out]
          exact ⟨rfl, pw_below_drewN hq.out _⟩
        · have hA2 : Aside0 (checkP c = rchkF (setN r f 0) (fl.drop (i + 1))) := ⟨by rw [hst1, if_neg hv]⟩
          clear hst1
          go_wp2_with (first | (go_at_call 19; refine (HNM.out _).mono ?_; rintro e w4 ⟨rfl, ⟨⟨n2, rfl⟩⟩⟩) | (go_at_call 22; refine (HVL2.out _).mono ?_; rintro e w4 ⟨rfl, rfl⟩))
          go_roundw
          case rel => exact ⟨i + 1, setN r f 0, by omega, by go_num, HS n2, hA2, ⟨(pw_below_drewN hq.out n2).setCell (p := ⟨w.heap.size + 1, numOff f, none⟩) (Nat.le_succ _) _⟩⟩
          case measure => simp [intOf]; omega
    · have hst := hP.out
      rw [List.drop_of_length_le (by omega), rchkF] at hst
      obtain ⟨o0, o1, o2, o3, o4, o5, o6, o7, of⟩ := cmd_cells hR.out
      have heq : ∀ w : World, (Op.equalIn 10000 24 (.agg #[.int .i64 r.kind, .string r.name, .string r.parent, .int .i64 r.shares, .int .i64 r.nodes, .int .i64 r.limit, .int .i64 r.job, .int .i64 r.ticks]) (.agg #[.int .i64 0, .string ⟨#[]⟩, .string ⟨#[]⟩, .int .i64 0, .int .i64 0, .int .i64 0, .int .i64 0, .int .i64 0])).run Tryd.prog w = .ok (eqC r zeroC) w := eq24 r zeroC
      by_cases he : eqC r zeroC = true
      · have hA3 : Aside0 (checkP c = 0) := ⟨hst.trans (if_pos he)⟩
        clear hst
        go_wp2
        go_ret
        rw [hA3.out]
        exact ⟨rfl, hq.out⟩
      · have hA3 : Aside0 (checkP c = 84) := ⟨hst.trans (if_neg he)⟩
        have heF : eqC r zeroC = false := by simpa using he
        clear he hst
        go_wp2
        go_ret
        rw [hA3.out]
        exact ⟨rfl, hq.out⟩
theorem rcheck_any (c : Cmd) (w : World) : Calls Tryd.prog 13 #[.agg (cells c)] w (CheckPost (checkP c) w) := by
  by_cases h : ∃ k : Nat, k < 13 ∧ c.kind = (k : Int) + 1
  · obtain ⟨k, hk, e⟩ := h
    exact rcheck_some c w k hk e
  · have hn : ∀ k : Nat, k < 13 → c.kind ≠ (k : Int) + 1 := fun k hk e => h ⟨k, hk, e⟩
    rw [checkP_nokind c hn]
    exact rcheck_none c w hn

end Go.Proofs.YtamimpomeigllaaDoor.V
