/- Own text: verbs.Print. -/
import Derived.Test.YtamimpomeigllaaDoorA7
namespace Go.Proofs.YtamimpomeigllaaDoor.V
open Go.RowKit Go.Proofs.YtamimpomeigllaaDoorW.PrintWords Go.Proofs.YtamimpomeigllaaDoor.PVerbsReads

theorem infoS : (Tryd.prog.info? 9).map (fun i => (i.zero, i.size, i.bytes)) = some (some (.string ⟨#[]⟩), 1, 16) := by kernel_rfl
def PrintPost (r : ByteArray × Int) (w : World) (e : Ending) (w' : World) : Prop := e = .returned (.tuple #[.string r.1, .int .i64 r.2]) ∧ Below w.heap.size w w'

set_option maxHeartbeats 4000000 in
set_option maxRecDepth 100000 in
theorem print_bad (c : Cmd) (w : World) (h : checkP c ≠ 0) : Calls Tryd.prog 10 #[.agg (cells c)] w (PrintPost (⟨#[]⟩, checkP c) w) := by
  have hc0 := alloc_cmd (w := w) rfl c
  obtain ⟨c0, c1, c2, c3, c4, c5, c6, c7, cf⟩ := cmd_cells hc0
  have hchk := check_any c (w.alloc (.cells (cells c) 24))
  have HK := Lib.hid hchk
  have hne : (checkP c != 0) = true := by rw [bne_iff_ne]; exact h
  clear hc0 hchk h
  go_enter Tryd.func10, Tryd.ntmps10
  go_wp2_with (go_at_call 12; refine HK.out.mono ?_; rintro e w1 ⟨rfl, hb⟩)
  go_ret2
  exact ⟨rfl, ((Below.refl _ _).alloc (Nat.le_refl _) _).trans (hb.mono (by simp))⟩

set_option maxHeartbeats 8000000 in
set_option maxRecDepth 100000 in
theorem print_good (c : Cmd) (w : World) (hE : Env w) (hW : Wf c) (h : checkP c = 0) : Calls Tryd.prog 10 #[.agg (cells c)] w (PrintPost (joinS (wordsOf c vt), 0) w) := by
  have hc0 := alloc_cmd (w := w) rfl c
  obtain ⟨c0, c1, c2, c3, c4, c5, c6, c7, cf⟩ := cmd_cells hc0
  have hchk := check_any c (w.alloc (.cells (cells c) 24))
  rw [h] at hchk
  have HK := Lib.hid hchk
  have H0 := Aside0.mk h
  have HC0 := Aside0.mk hc0
  clear hc0 hchk h
  go_enter Tryd.func10, Tryd.ntmps10
  go_wp2_with (first | (go_at_call 12; refine HK.out.mono ?_; rintro e w1 ⟨rfl, hb1⟩) | (go_at_call 15; refine (verbs_any _).mono ?_; rintro e w2 ⟨g2, cap2, rfl, hcap2, hg2, hV, hb2⟩; refine Hid.out ?_))
  refine Lib.hid ?_
  have hB : Below w.heap.size w w2 := (((Below.refl _ w).alloc (Nat.le_refl _) _).trans (hb1.mono (by simp))).trans (hb2.mono (by have := hb1.size; simp at this; omega))
  have hCc : IsCmd w2 w.heap.size c := cmd_below (cmd_below HC0.out hb1) hb2
  have hcl : w.heap.size < w2.heap.size := blk_lt hCc
  have hg2l : g2 < w2.heap.size := (World.block_lt_of_cell? w2 ⟨g2, 0, none⟩ (hV.at_ 0 (by omega)).choose_spec.choose_spec.1)
  have hE2 := hE.below hE.n8 hB
  have HB := Aside0.mk hB
  have HC := Aside0.mk hCc
  clear hB hCc hb1 hb2 HC0 hg2 c0 c1 c2 c3 c4 c5 c6 c7 cf HK
  go_wp2
  go_loopw [5, 18] (fun sv i wr => ∃ (k : Nat) (acc : List ByteArray), k ≤ 13 ∧ i = .int .i64 k ∧ Aside0 (wordsOf c vt = acc ++ wordsOf c (vt.drop k)) ∧ acc.length ≤ 4 * k ∧ Aside0 (∀ x ∈ acc, x.size ≤ 32) ∧ Aside0 (Kd.R Kd.string 9 wr w2.heap.size (fun _ => True) sv acc) ∧ Below w2.heap.size w2 wr) (fun _ i _ => 13 - (intOf i).toNat)
  case atStart => exact ⟨0, [], by omega, rfl, ⟨rfl⟩, by simp, ⟨fun x hx => by cases hx⟩, ⟨Kd.R_nil _ _ _ _ _⟩, Below.refl _ _⟩
  case round =>
    obtain ⟨wo, hwo⟩ : ∃ wo, wo = wr := ⟨wr, rfl⟩
    subst hwo
    obtain ⟨k, acc, hk, rfl, hp, hal, hsz, hR, hbr⟩ := hrel
    by_cases hlt : k < 13
    · have hkB : decide ((k : Int) < 13) = true := decide_eq_true (by omega)
      obtain ⟨A, cA, kd, wd, fl, h0', h1', h2', hcA, hfl, hrd⟩ := hV.get k hlt
      have h0 : wo.cell? ⟨g2, k * 3, none⟩ = some (.int .i64 kd) := (hbr.cell (p := ⟨g2, k * 3, none⟩) hg2l).trans h0'
      have h1 : wo.cell? ⟨g2, k * 3 + 1, none⟩ = some (.string wd) := (hbr.cell (p := ⟨g2, k * 3 + 1, none⟩) hg2l).trans h1'
      have h2 : wo.cell? ⟨g2, k * 3 + 2, none⟩ = some (.slice A fl.length cA) := (hbr.cell (p := ⟨g2, k * 3 + 2, none⟩) hg2l).trans h2'
      have hcr : w.heap.size < wo.heap.size := Nat.lt_of_lt_of_le hcl hbr.size
      have HCo := Aside0.mk (show IsCmd wo w.heap.size c from (hbr.block _ hcl).trans HC.out)
      obtain ⟨c0, c1, c2, c3, c4, c5, c6, c7, cf⟩ := cmd_cells HCo.out
      have hBr := Aside0.mk hbr
      clear hbr h0' h1' h2'
      by_cases hm : kd = c.kind
      · have hvk : (vat k).f0 = c.kind := by rw [hrd.out.2]; exact hm
        have hok : ∀ f ∈ fl, IsT f → validB (getT c f) = true := by
          have := checkP_at c k hlt hvk k (Nat.le_refl _)
          rw [checkV_yes c k hlt hvk, H0.out, hrd.out.2] at this
          exact checkF_ok c fl _ this.symm
        have hfin : Aside0 (wordsOf c vt = (acc ++ [wd]) ++ wordsF c (fl.drop 0) ++ wordsOf c (vt.drop (k + 1))) := ⟨by rw [hp.out, wordsOf_yes c k hlt hvk, hrd.out.2]; simp⟩
        have hwd : wd.size ≤ 32 := by have := vat_word k hlt; rw [hrd.out.2] at this; exact this
        have hmN : (kd != c.kind) = false := by rw [bne_eq_false_iff_eq]; exact hm
        have Hok := Aside0.mk hok
        clear hm hp hvk hok
        go_wp2_with (at_builtin; refine Kd.R_append Kd.string (w0 := w2) w2.heap.size rfl (.tmp 27) (.tmp 30) 33 9 (.string ⟨#[]⟩) 16 rfl Tryd.underlying33 infoS rfl (by decide) (by omega) _ acc wd [.string wd] (fun _ => True) (fun _ => False) rfl ?aX ?aP (fun _ hk => hk.elim) ?aF ?aO ?aB ?aS ?aL ?_; (case aX => (first | rfl | (go_simp; done) | (go_simp; rfl))); (case aP => exact rfl); (case aF => exact (fun _ _ => trivial)); (case aO => exact Kd.R_alloc hR.out _); (case aB => exact hBr.out.alloc hBr.out.size _); (case aS => have := hBr.out.size; simp; omega); (case aL => omega); intro v1 w5 ho hb hg hat; refine Hid.out ?_)
        refine Lib.hid ?_
        have hne : some wo.heap.size ≠ u5.ownBlock := fun e => Nat.lt_irrefl _ (own_lt (Kd.own_of_R hR.out) wo.heap.size e.symm)
        have hv5 : w5.cell? ⟨wo.heap.size, 2, none⟩ = some (.slice A fl.length cA) := by
          refine (World.cell?_of_block (hg.block wo.heap.size (by simp) hne)).trans ?_
          exact cell_of_row _ _ 2 _ _ _ (heap_alloc_new wo _)
        have HR5 := Aside0.mk ho
        have HB5 := Aside0.mk hb
        clear ho hb hg hat hne c0 c1 c2 c3 c4 c5 c6 c7 cf
        go_wp2
        go_loopw [5, 35] (fun sv j wr => ∃ (j' : Nat) (acc1 : List ByteArray), j' ≤ fl.length ∧ j = .int .i64 j' ∧ Aside0 (wordsOf c vt = acc1 ++ wordsF c (fl.drop j') ++ wordsOf c (vt.drop (k + 1))) ∧ acc1.length ≤ 4 * k + 1 + j' ∧ Aside0 (∀ x ∈ acc1, x.size ≤ 32) ∧ Aside0 (Kd.R Kd.string 9 wr w2.heap.size (fun _ => True) sv acc1) ∧ Aside0 (Below w2.heap.size w2 wr)) (fun _ j _ => fl.length - (intOf j).toNat)
        case atStart => exact ⟨0, acc ++ [wd], Nat.zero_le _, rfl, hfin, by simp; omega, ⟨fun x hx => by rcases List.mem_append.1 hx with hx | hx; exact hsz.out x hx; rw [List.mem_singleton.1 hx]; exact hwd⟩, HR5, HB5⟩
        case round =>
          obtain ⟨j, acc1, hj, rfl, hA, hal1, hsz1, hR1, hq⟩ := hrel
          have HCq := Aside0.mk (show IsCmd wr w.heap.size c from (hq.out.block _ hcl).trans HC.out)
          by_cases hjl : j < fl.length
          · obtain ⟨ad, rfl, hfc0⟩ := (hrd.out.1.below hq.out).at_ (j : Int) (by omega) (by omega)
            rw [Int.toNat_natCast] at hfc0
            obtain ⟨f, hf⟩ : ∃ f, f = fl.getD j 0 := ⟨_, rfl⟩
            have hfc : wr.cell? (ad.add j) = some (.int .i64 f) := hfc0.trans (by rw [hf]; unfold rd; rw [Int.toNat_natCast])
            have hst : wordsOf c vt = (acc1 ++ [fieldS c f]) ++ wordsF c (fl.drop (j + 1)) ++ wordsOf c (vt.drop (k + 1)) := by
              rw [hA.out, wordsF_step c fl j hjl, ← hf]; simp
            have hfs : (fieldS c f).size ≤ 32 := by
              refine fieldS_size c hW f (Hok.out f ?_)
              rw [hf, List.getD_eq_getElem?_getD, List.getElem?_eq_getElem hjl]
              exact List.getElem_mem hjl
            have hsz2 : ∀ x ∈ acc1 ++ [fieldS c f], x.size ≤ 32 := fun x hx => by
              rcases List.mem_append.1 hx with hx | hx
              · exact hsz1.out x hx
              · rw [List.mem_singleton.1 hx]; exact hfs
            have Hst := Aside0.mk hst
            have Hsz2 := Aside0.mk hsz2
            clear hfc0 hf hA hst hsz2 hfs hsz1
            by_cases hT : IsT f
            · have hfS : fieldS c f = getT c f := if_pos hT
              rw [hfS] at Hst Hsz2
              rcases hT with rfl | rfl
              · have hc1 : wr.cell? ⟨w.heap.size, 1, none⟩ = some (.string (getT c 0)) := blk_cell HCq.out 1
                clear hfS
                go_wp2_with (first | (go_at_call 23; refine (text0 _ _).mono ?_; rintro e w1 ⟨rfl, rfl⟩) | (at_builtin; refine Kd.R_append Kd.string (w0 := w2) w2.heap.size rfl (.tmp 43) (.tmp 47) 33 9 (.string ⟨#[]⟩) 16 rfl Tryd.underlying33 infoS rfl (by decide) (by omega) _ acc1 (getT c 0) [.string (getT c 0)] (fun _ => True) (fun _ => False) rfl ?aX ?aP (fun _ hk => hk.elim) ?aF ?aO ?aB ?aS ?aL ?_; (case aX => (first | rfl | (go_simp; done) | (go_simp; rfl))); (case aP => exact rfl); (case aF => exact (fun _ _ => trivial)); (case aO => exact hR1.out); (case aB => exact hq.out); (case aS => exact hq.out.size); (case aL => omega); intro v7 w7 ho7 hb7 hg7 hat7))
                go_roundw
                case rel => exact ⟨j + 1, acc1 ++ [getT c 0], by omega, by go_num, Hst, by simp; omega, Hsz2, ⟨ho7⟩, ⟨hb7⟩⟩
                case measure => simp [intOf]; omega
              · have hc1 : wr.cell? ⟨w.heap.size, 2, none⟩ = some (.string (getT c 1)) := blk_cell HCq.out 2
                clear hfS
                go_wp2_with (first | (go_at_call 23; refine (text1 _ _).mono ?_; rintro e w1 ⟨rfl, rfl⟩) | (at_builtin; refine Kd.R_append Kd.string (w0 := w2) w2.heap.size rfl (.tmp 43) (.tmp 47) 33 9 (.string ⟨#[]⟩) 16 rfl Tryd.underlying33 infoS rfl (by decide) (by omega) _ acc1 (getT c 1) [.string (getT c 1)] (fun _ => True) (fun _ => False) rfl ?aX ?aP (fun _ hk => hk.elim) ?aF ?aO ?aB ?aS ?aL ?_; (case aX => (first | rfl | (go_simp; done) | (go_simp; rfl))); (case aP => exact rfl); (case aF => exact (fun _ _ => trivial)); (case aO => exact hR1.out); (case aB => exact hq.out); (case aS => exact hq.out.size); (case aL => omega); intro v7 w7 ho7 hb7 hg7 hat7))
                go_roundw
                case rel => exact ⟨j + 1, acc1 ++ [getT c 1], by omega, by go_num, Hst, by simp; omega, Hsz2, ⟨ho7⟩, ⟨hb7⟩⟩
                case measure => simp [intOf]; omega
            · have hfS : fieldS c f = ⟨(Lib.itoa (getN c f)).toArray⟩ := if_neg hT
              rw [hfS] at Hst Hsz2
              have hcn := num_cell' HCq.out f
              have hEq := Aside0.mk (hE2.below hE2.n8 hq.out)
              have hwf := hW.out f
              have HT := Aside0.mk hT
              obtain ⟨n, hn⟩ : ∃ n, n = getN c f := ⟨_, rfl⟩
              rw [← hn] at hcn Hst Hsz2 hwf
              clear hfS hT hn
              go_wp2_with (first | (go_at_call 23; refine (textN _ _ HT.out _).mono ?_; rintro e w1 ⟨rfl, rfl⟩) | (go_at_call 25; refine (number_any _ _ _).mono ?_; rintro e w1 ⟨rfl, rfl⟩) | (go_at_call 24; refine (itoa_any _ hwf.1 hwf.2 _ hEq.out).mono ?_; rintro e w6 ⟨rfl, hb6⟩; have HR6 := Aside0.mk (Kd.R_below hR1.out hb6); have HB6 := Aside0.mk (hq.out.trans (hb6.mono hq.out.size)); clear hb6) | (at_builtin; refine Kd.R_append Kd.string (w0 := w2) w2.heap.size rfl (.tmp 49) (.tmp 55) 33 9 (.string ⟨#[]⟩) 16 rfl Tryd.underlying33 infoS rfl (by decide) (by omega) _ acc1 (⟨(Lib.itoa n).toArray⟩ : ByteArray) [.string (⟨(Lib.itoa n).toArray⟩ : ByteArray)] (fun _ => True) (fun _ => False) rfl ?aX ?aP (fun _ hk => hk.elim) ?aF ?aO ?aB ?aS ?aL ?_; (case aX => (first | rfl | (go_simp; done) | (go_simp; rfl))); (case aP => exact rfl); (case aF => exact (fun _ _ => trivial)); (case aO => exact HR6.out); (case aB => exact HB6.out); (case aS => exact HB6.out.size); (case aL => omega); intro v7 w7 ho7 hb7 hg7 hat7))
              go_roundw
              case rel => exact ⟨j + 1, acc1 ++ [⟨(Lib.itoa n).toArray⟩], by omega, by go_num, Hst, by simp; omega, Hsz2, ⟨ho7⟩, ⟨hb7⟩⟩
              case measure => simp [intOf]; omega
          · have hend : Aside0 (wordsOf c vt = acc1 ++ wordsOf c (vt.drop (k + 1))) := ⟨by rw [hA.out, List.drop_of_length_le (by omega)]; simp [wordsF]⟩
            go_wp2
            go_roundw
            case rel => exact ⟨k + 1, acc1, by omega, by go_num, hend, by omega, hsz1, hR1, hq.out⟩
            case measure => simp [intOf]; omega
      · have hp' := Aside0.mk (hp.out.trans (by rw [wordsOf_no c k hlt (by rw [hrd.out.2]; exact hm)]))
        have hmN : (kd != c.kind) = true := by rw [bne_iff_ne]; exact hm
        clear hm hp
        go_wp2
        go_roundw
        case rel => exact ⟨k + 1, acc, by omega, by go_num, hp', by omega, hsz, ⟨Kd.R_alloc hR.out _⟩, hBr.out.alloc hBr.out.size _⟩
        case measure => simp [intOf]; omega
    · have hk13 : k = 13 := by omega
      subst hk13
      have hBr := Aside0.mk hbr
      have hend : wordsOf c vt = acc := by rw [hp.out]; show acc ++ wordsOf c [] = acc; simp [wordsOf]
      have Hend := Aside0.mk hend
      have hjl := join_len acc hsz.out
      have Hj := Aside0.mk hjl
      clear hbr hend hjl
      go_wp2_with (go_at_call 26; refine (line_any _ acc _ _ hR.out (by omega) (by have := Hj.out; omega)).mono ?_; rintro e w6 ⟨rfl, hb6⟩)
      go_ret2
      rw [Hend.out]
      exact ⟨rfl, (HB.out.trans (hBr.out.mono (by omega))).trans (hb6.mono (by have := hBr.out.size; omega))⟩

end Go.Proofs.YtamimpomeigllaaDoor.V
