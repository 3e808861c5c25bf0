/- Own text: the reference's Parse: it comes to what verbs.Parse comes to. -/
import Derived.Test.YtamimpomeigllaaDoorC3
import Derived.Test.YtamimpomeigllaaDoorA8
namespace Go.Proofs.YtamimpomeigllaaDoor.V
open Go.RowKit Go.Proofs.YtamimpomeigllaaDoorW.PrintWords Go.Proofs.YtamimpomeigllaaDoor.PVerbsReads

theorem word_any (k : Nat) (hk : k < 13) (w : World) : Calls Tryd.prog 18 #[.int .i64 ((k : Int) + 1)] w fun e w' => e = .returned (.tuple #[.string (vat k).f1, .string (formOf k)]) ∧ Drawn0 w w' :=
  backfillref08_word.calls _ _ _ w (word_at k hk)
theorem word_not (n : Int) (h : ∀ k : Nat, k < 13 → n ≠ (k : Int) + 1) (w : World) : Calls Tryd.prog 18 #[.int .i64 n] w fun e w' => e = .returned (.tuple #[.string ⟨#[]⟩, .string ⟨#[]⟩]) ∧ Drawn0 w w' :=
  backfillref08_word.calls _ _ _ w (word_none n h)

theorem rparse_long (line : ByteArray) (w : World) (h : 256 < line.size) (hs : line.size ≤ 140737488351232) : Calls Tryd.prog 7 #[.string line] w (ParsePost (zeroC, 80) w) := by
  go_enter Tryd.func7, Tryd.ntmps7
  go_wp2
  exact bodyPost_ret (v := .tuple #[.agg (cells zeroC), .int .i64 80]) (by simp [results, Tryd.results7, go_sem, cells, zeroC]) rfl ⟨rfl, ((Below.refl _ _).alloc (Nat.le_refl _) _)⟩

theorem toList_inj {a b : ByteArray} (h : a.toList = b.toList) : a = b := by
  rw [toList_data, toList_data] at h
  rw [← ofL_data a, h, ofL_data]

/-- What the search through the kinds has come to. -/
def Fnd (ws : List ByteArray) (x0 : ByteArray) (k : Nat) (fm : ByteArray) (c : Cmd) : Prop :=
  (fm = ⟨#[]⟩ ∧ c = zeroC ∧ parseV ws vt = parseV ws (vt.drop k)) ∨
  ∃ j, j < k ∧ j < 13 ∧ fm = formOf j ∧ c = kc ((j : Int) + 1) ∧ x0 = (vat j).f1 ∧ parseV ws vt = parseV ws (vt.drop j)

theorem form_at (j i : Nat) (hi : i < (vat j).f2.length) : ∀ h : i < (formOf j).size, (((formOf j)[i]'h).toNat : Int) = ((letter ((vat j).f2.getD i 0)).toNat : Int) := by
  intro h
  congr 2
  rw [List.getD_eq_getElem?_getD, List.getElem?_eq_getElem hi]
  have e : (formOf j).data.toList[i]? = some (letter ((vat j).f2[i])) := by
    show ((vat j).f2.map letter).toArray.toList[i]? = _
    rw [List.toList_toArray, List.getElem?_map, List.getElem?_eq_getElem hi]
    rfl
  obtain ⟨h1, h2⟩ := List.getElem?_eq_some_iff.1 e
  rw [Array.getElem_toList] at h2
  exact h2

def tOff (f : Int) : Nat := if f = 0 then 1 else 2
theorem rtext_any (b : Nat) (f : Int) (hf : IsT f) (w : World) : Calls Tryd.prog 20 #[.pointer (some ⟨b, 0, none⟩), .int .u8 ((letter f).toNat : Int)] w fun e w' => e = .returned (.pointer (some ⟨b, tOff f, none⟩)) ∧ w = w' := by
  rcases hf with rfl | rfl
  · exact rtext0 b w
  · exact rtext1 b w
theorem setT_cells (c : Cmd) (f : Int) (hf : IsT f) (s : ByteArray) : cells (setT c f s) = (cells c).setIfInBounds (tOff f) (.string s) := by
  rcases hf with rfl | rfl
  · rfl
  · rfl
theorem txt_cell {w : World} {b : Nat} {c : Cmd} (h : IsCmd w b c) (f : Int) (hf : IsT f) : w.cell? ⟨b, tOff f, none⟩ = some (.string (getT c f)) := by
  rcases hf with rfl | rfl
  · exact blk_cell h 1
  · exact blk_cell h 2

set_option maxHeartbeats 8000000 in
set_option maxRecDepth 100000 in
theorem rparse_short (line : ByteArray) (w : World) (hs : line.size ≤ 256) : Calls Tryd.prog 7 #[.string line] w (ParsePost (parseV (words line) vt) w) := by
  go_enter Tryd.func7, Tryd.ntmps7
  go_wp2_with (go_at_call 17; refine (rsplit_any _ hs _).mono ?_; rintro e w1 ⟨g1, cap1, rfl, hcap1, hg1, hW, hb1⟩; refine Hid.out ?_)
  refine Lib.hid ?_
  have hwp := words_pos line
  have hres : IsCmd w1 w.heap.size zeroC := cmd_below (heap_alloc_new w _) hb1
  have hB : Below w.heap.size w w1 := ((Below.refl _ w).alloc (Nat.le_refl _) _).trans (hb1.mono (by simp))
  have hgr : w.heap.size < w1.heap.size := blk_lt hres
  have hgl : g1 < w1.heap.size := hW.lt
  generalize hws : words line = ws at *
  have HB := Aside0.mk hB
  have HR := Aside0.mk hres
  clear hB hres hb1 hws hg1
  go_wp2
  obtain ⟨x0, hx0⟩ : ∃ x, x = ws.getD 0 ⟨#[]⟩ := ⟨_, rfl⟩
  have hX := Aside0.mk hx0
  clear hx0
  go_loopw [6, 7] (fun fv i wr => ∃ (k : Nat) (fm : ByteArray) (c : Cmd), k ≤ 13 ∧ i = .int .i64 ((k : Int) + 1) ∧ fv = .string fm ∧ Aside0 (Fnd ws x0 k fm c) ∧ Aside0 (IsCmd wr w1.heap.size c) ∧ Aside0 (Below w1.heap.size w1 wr)) (fun _ i _ => 14 - (intOf i).toNat)
  case atStart => exact ⟨0, ⟨#[]⟩, zeroC, by omega, rfl, rfl, ⟨.inl ⟨rfl, rfl, rfl⟩⟩, ⟨alloc_cmd rfl zeroC⟩, ⟨(Below.refl _ _).alloc (Nat.le_refl _) _⟩⟩
  case round =>
    obtain ⟨wo, hwo⟩ : ∃ wo, wo = wr := ⟨wr, rfl⟩
    subst hwo
    obtain ⟨k, fm, c, hk, rfl, rfl, hF, hC, hq⟩ := hrel
    by_cases hlt : k < 13
    · have hw0 : wo.cell? ⟨g1, 0, none⟩ = some (.string x0) := ((hW.below hq.out).out 0 hwp).trans (by rw [hX.out])
      have hc0 := blk_cell hC.out 0
      have hf0 := blk_frozen hC.out 0
      obtain ⟨wd, hwd⟩ : ∃ x, x = (vat k).f1 := ⟨_, rfl⟩
      have hwk := word_any k hlt
      rw [← hwd] at hwk
      have HWK := Lib.hid hwk
      have HWD := Aside0.mk hwd
      clear hwk hwd
      by_cases hm : (wd.toList == x0.toList) = true
      · have hwx : wd = x0 := toList_inj (by simpa using hm)
        have hcz : c = zeroC ∧ Fnd ws x0 (k + 1) (formOf k) (kc ((k : Int) + 1)) := by
          rcases hF.out with ⟨_, h2, h3⟩ | ⟨j, h1, h2, _, _, h5, _⟩
          · exact ⟨h2, .inr ⟨k, by omega, hlt, rfl, rfl, by rw [← hwx, HWD.out], h3⟩⟩
          · have := vat_distinct j k h2 hlt (by rw [← h5, ← hwx, HWD.out])
            omega
        obtain ⟨rfl, hF2⟩ := hcz
        have HF2 := Aside0.mk hF2
        have HS : ∀ n, Aside0 (IsCmd ((wo.drewN n).setCell ⟨w1.heap.size, 0, none⟩ (.int .i64 ((k : Int) + 1))) w1.heap.size (kc ((k : Int) + 1))) := fun n => ⟨cmd_set (w := wo.drewN n) (c := zeroC) (c' := kc ((k : Int) + 1)) hC.out 0 (.int .i64 ((k : Int) + 1)) rfl⟩
        clear hwx hF2 hF
        go_wp2_with (go_at_call 18; refine (HWK.out _).mono ?_; rintro e w4 ⟨rfl, ⟨⟨n, rfl⟩⟩⟩)
        go_roundw
        case rel => exact ⟨k + 1, formOf k, kc ((k : Int) + 1), by omega, by go_num, rfl, HF2, HS n, ⟨(pw_below_drewN hq.out n).setCell (p := ⟨w1.heap.size, 0, none⟩) (Nat.le_refl _) _⟩⟩
        case measure => simp [intOf]; omega
      · have hmF : (wd.toList == x0.toList) = false := by simpa using hm
        have hF2 : Fnd ws x0 (k + 1) fm c := by
          rcases hF.out with ⟨h1, h2, h3⟩ | ⟨j, h1, h2, h3, h4, h5, h6⟩
          · exact .inl ⟨h1, h2, by rw [h3, parseV_no ws k hlt (by rw [← HWD.out, ← hX.out]; exact hmF)]⟩
          · exact .inr ⟨j, by omega, h2, h3, h4, h5, h6⟩
        have HF2 := Aside0.mk hF2
        clear hm hF2 hF
        go_wp2_with (go_at_call 18; refine (HWK.out _).mono ?_; rintro e w4 ⟨rfl, ⟨⟨n, rfl⟩⟩⟩)
        go_roundw
        case rel => exact ⟨k + 1, fm, c, by omega, by go_num, rfl, HF2, hC, ⟨pw_below_drewN hq.out n⟩⟩
        case measure => simp [intOf]; omega
    · have hRo : IsCmd wo w.heap.size zeroC := (hq.out.block _ hgr).trans HR.out
      rcases hF.out with ⟨rfl, rfl, h3⟩ | ⟨j, h1, h2, rfl, rfl, h5, h6⟩
      · have hfin : Aside0 (parseV ws vt = (zeroC, 81)) := ⟨by rw [h3, show k = 13 from by omega]; rfl⟩
        obtain ⟨r0, r1, r2, r3, r4, r5, r6, r7, rf⟩ := cmd_cells hRo
        have hc0 : wo.cell? ⟨w1.heap.size, 0, none⟩ = some (.int .i64 0) := blk_cell hC.out 0
        have HRo := Aside0.mk hRo
        clear hRo h3 hF
        go_wp2
        refine rparse_close (b := w.heap.size) (c := zeroC) (code := 81) rfl rfl (put8_cmd (c0 := zeroC) HRo.out zeroC) ?_
        rw [hfin.out]
        exact ⟨rfl, put8_below (HB.out.trans (hq.out.mono (by omega))) (Nat.le_refl _) zeroC⟩
      · have hc0 : wo.cell? ⟨w1.heap.size, 0, none⟩ = some (.int .i64 ((j : Int) + 1)) := blk_cell hC.out 0
        have hkz : ((j : Int) + 1 == 0) = false := beq_eq_false_iff_ne.2 (by omega)
        have hm : ((vat j).f1.toList == (ws.getD 0 ⟨#[]⟩).toList) = true := by rw [← hX.out, h5]; simp
        have hfs := form_size j
        have hfl := vat_len j h2
        obtain ⟨fl, hfle⟩ : ∃ fl, fl = (vat j).f2 := ⟨_, rfl⟩
        obtain ⟨fm, hfm⟩ : ∃ fm, fm = formOf j := ⟨_, rfl⟩
        rw [← hfle] at hfs hfl
        rw [← hfm] at hfs
        have hfs1 : fm.size ≤ fl.length := by omega
        have hfs2 : fl.length ≤ fm.size := by omega
        have HFS := Aside0.mk hfs
        have HFL := Aside0.mk hfle
        have HFM := Aside0.mk hfm
        rw [← hfm]
        clear hfs hfle hfm hF h5
        by_cases hn : ws.length = fl.length + 1
        · have hfin : Aside0 (parseV ws vt = orFail (readAll (kc ((j : Int) + 1)) fl ws.tail)) := ⟨by rw [h6, parseV_yes ws j h2 hm (by rw [← HFL.out]; exact hn), vat_kind j h2, ← HFL.out]⟩
          have hnB : ((ws.length : Int) != (fm.size : Int) + 1) = false := by rw [bne_eq_false_iff_eq]; omega
          have HRo := Aside0.mk hRo
          have hn1 : fl.length + 1 ≤ ws.length := by omega
          have Hn := Aside0.mk hn
          clear hRo hn h6 hm
          go_wp2
          go_loopw [10] (fun i wr => ∃ (i' : Nat) (c : Cmd), i' ≤ fl.length ∧ i = .int .i64 i' ∧ Aside0 (IsCmd wr w1.heap.size c) ∧ Aside0 (readAll (kc ((j : Int) + 1)) fl ws.tail = readAll c (fl.drop i') (ws.drop (i' + 1))) ∧ Aside0 (Below w1.heap.size w1 wr)) (fun i _ => fl.length - (intOf i).toNat)
          case atStart => exact ⟨0, kc ((j : Int) + 1), Nat.zero_le _, rfl, hC, ⟨by simp⟩, hq⟩
          case round =>
            clear hc0 hkz hC hq HRo
            obtain ⟨i, c, hi, rfl, hC, hA, hq⟩ := hrel
            have hRq := show IsCmd wr w.heap.size zeroC from (hq.out.block _ hgr).trans HR.out
            by_cases hil : i < fl.length
            · have hwc0 := (hW.below hq.out).out (i + 1) (by omega)
              obtain ⟨x, hx⟩ : ∃ x, x = ws.getD (i + 1) ⟨#[]⟩ := ⟨_, rfl⟩
              rw [← hx] at hwc0
              have hst := readAll_step c fl ws i hil Hn.out
              obtain ⟨f, hf⟩ : ∃ f, f = fl.getD i 0 := ⟨_, rfl⟩
              rw [← hf, ← hx] at hst
              have hbt0 : ∀ h : i < fm.size, ((fm[i]'h).toNat : Int) = ((letter f).toNat : Int) := by
                have := form_at j i (by rw [← HFL.out]; exact hil)
                rw [← HFM.out, ← HFL.out, ← hf] at this
                exact this
              have hnm := named_any f
              have htx := rtext_any w1.heap.size f
              have hvl := rvalue_any w1.heap.size f
              obtain ⟨L, hL⟩ : ∃ L : Int, L = ((letter f).toNat : Int) := ⟨_, rfl⟩
              rw [← hL] at hbt0 hnm htx hvl
              have HNM := Lib.hid hnm
              have HTX := Lib.hid htx
              have HVL := Lib.hid hvl
              have Hst := Aside0.mk (hA.out.trans hst)
              clear hf hx hL hst hnm htx hvl hA
              by_cases hT : IsT f
              · have hTd : decide (IsT f) = true := decide_eq_true hT
                rw [hTd] at HNM
                have hcell := txt_cell hC.out f hT
                have hfr := blk_frozen hC.out (tOff f)
                have HTX2 := Lib.hid (HTX.out hT)
                have HS : ∀ n, Aside0 (IsCmd ((wr.drewN n).setCell ⟨w1.heap.size, tOff f, none⟩ (.string x)) w1.heap.size (setT c f x)) := fun n => ⟨cmd_set (w := wr.drewN n) (c := c) (c' := setT c f x) hC.out (tOff f) (.string x) (setT_cells c f hT x)⟩
                have hB2 : Aside0 (readB f x = validB x ∧ readC c f x = setT c f x) := ⟨if_pos hT, if_pos hT⟩
                clear hT hTd HTX HVL
                by_cases hv : validB x = true
                · have hA2 : Aside0 (readAll (kc ((j : Int) + 1)) fl ws.tail = readAll (setT c f x) (fl.drop (i + 1)) (ws.drop (i + 1 + 1))) := ⟨by rw [Hst.out, hB2.out.1, hB2.out.2, if_pos hv]⟩
                  go_wp2_with (first | (go_at_call 19; refine (HNM.out _).mono ?_; rintro e w4 ⟨rfl, ⟨⟨n1, rfl⟩⟩⟩) | (go_at_call 9; refine (rvalid_any _ _).mono ?_; rintro e w4 ⟨rfl, ⟨⟨n2, rfl⟩⟩⟩) | (go_at_call 20; refine (HTX2.out _).mono ?_; rintro e w4 ⟨rfl, rfl⟩))
                  go_roundw
                  case rel => exact ⟨i + 1, setT c f x, by omega, by go_num, HS (n1 + n2), hA2, ⟨(pw_below_drewN hq.out (n1 + n2)).setCell (p := ⟨w1.heap.size, tOff f, none⟩) (Nat.le_refl _) _⟩⟩
                  case measure => simp [intOf]; omega
                · have hvF : validB x = false := by simpa using hv
                  have hA2 : Aside0 (parseV ws vt = (zeroC, 83)) := ⟨by rw [hfin.out, Hst.out, hB2.out.1, if_neg hv]; rfl⟩
                  obtain ⟨r0, r1, r2, r3, r4, r5, r6, r7, rf⟩ := cmd_cells hRq
                  have HRq := Aside0.mk hRq
                  clear hRq hv
                  go_wp2_with (first | (go_at_call 19; refine (HNM.out _).mono ?_; rintro e w4 ⟨rfl, ⟨⟨n1, rfl⟩⟩⟩) | (go_at_call 9; refine (rvalid_any _ _).mono ?_; rintro e w4 ⟨rfl, ⟨⟨n2, rfl⟩⟩⟩))
                  refine rparse_close (b := w.heap.size) (c := zeroC) (code := 83) rfl rfl (put8_cmd (w := wr.drewN (n1 + n2)) (c0 := zeroC) HRq.out zeroC) ?_
                  rw [hA2.out]
                  exact ⟨rfl, put8_below (pw_below_drewN (HB.out.trans (hq.out.mono (by omega))) _) (Nat.le_refl _) zeroC⟩
              · have hTd : decide (IsT f) = false := decide_eq_false hT
                rw [hTd] at HNM
                have hcell := num_cell' hC.out f
                have hfr := blk_frozen hC.out (numOff f)
                have HVL2 := Lib.hid (HVL.out hT)
                have HS : ∀ n, Aside0 (IsCmd ((wr.drewN n).setCell ⟨w1.heap.size, numOff f, none⟩ (.int .i64 (atoiV x))) w1.heap.size (setN c f (atoiV x))) := fun n => ⟨cmd_set (w := wr.drewN n) (c := c) (c' := setN c f (atoiV x)) hC.out (numOff f) (.int .i64 (atoiV x)) (setN_cells c f _)⟩
                have hB2 : Aside0 (readB f x = numB x ∧ readC c f x = setN c f (atoiV x)) := ⟨if_neg hT, if_neg hT⟩
                have hrn := rnumber_any x
                clear hT hTd HTX HVL
                by_cases hv : numB x = true
                · have hA2 : Aside0 (readAll (kc ((j : Int) + 1)) fl ws.tail = readAll (setN c f (atoiV x)) (fl.drop (i + 1)) (ws.drop (i + 1 + 1))) := ⟨by rw [Hst.out, hB2.out.1, hB2.out.2, if_pos hv]⟩
                  rw [if_pos hv, hv] at hrn
                  have HRN := Lib.hid hrn
                  clear hrn hv
                  go_wp2_with (first | (go_at_call 19; refine (HNM.out _).mono ?_; rintro e w4 ⟨rfl, ⟨⟨n1, rfl⟩⟩⟩) | (go_at_call 21; refine (HRN.out _).mono ?_; rintro e w4 ⟨rfl, ⟨⟨n2, rfl⟩⟩⟩) | (go_at_call 22; refine (HVL2.out _).mono ?_; rintro e w4 ⟨rfl, rfl⟩))
                  go_roundw
                  case rel => exact ⟨i + 1, setN c f (atoiV x), by omega, by go_num, HS (n1 + n2), hA2, ⟨(pw_below_drewN hq.out (n1 + n2)).setCell (p := ⟨w1.heap.size, numOff f, none⟩) (Nat.le_refl _) _⟩⟩
                  case measure => simp [intOf]; omega
                · have hvF : numB x = false := by simpa using hv
                  have hA2 : Aside0 (parseV ws vt = (zeroC, 83)) := ⟨by rw [hfin.out, Hst.out, hB2.out.1, if_neg hv]; rfl⟩
                  rw [if_neg hv, hvF] at hrn
                  have HRN := Lib.hid hrn
                  obtain ⟨r0, r1, r2, r3, r4, r5, r6, r7, rf⟩ := cmd_cells hRq
                  have HRq := Aside0.mk hRq
                  clear hRq hv hrn
                  go_wp2_with (first | (go_at_call 19; refine (HNM.out _).mono ?_; rintro e w4 ⟨rfl, ⟨⟨n1, rfl⟩⟩⟩) | (go_at_call 21; refine (HRN.out _).mono ?_; rintro e w4 ⟨rfl, ⟨⟨n2, rfl⟩⟩⟩))
                  refine rparse_close (b := w.heap.size) (c := zeroC) (code := 83) rfl rfl (put8_cmd (w := wr.drewN (n1 + n2)) (c0 := zeroC) HRq.out zeroC) ?_
                  rw [hA2.out]
                  exact ⟨rfl, put8_below (pw_below_drewN (HB.out.trans (hq.out.mono (by omega))) _) (Nat.le_refl _) zeroC⟩
            · have hfin2 : Aside0 (parseV ws vt = (c, 0)) := ⟨by rw [hfin.out, hA.out, readAll_end c fl ws i (by omega)]; rfl⟩
              obtain ⟨r0, r1, r2, r3, r4, r5, r6, r7, rf⟩ := cmd_cells hRq
              obtain ⟨c0, c1, c2, c3, c4, c5, c6, c7, cf⟩ := cmd_cells hC.out
              have HRq := Aside0.mk hRq
              clear hRq
              go_wp2
              refine rparse_close (b := w.heap.size) (c := c) (code := 0) rfl rfl (put8_cmd (c0 := zeroC) HRq.out c) ?_
              rw [hfin2.out]
              exact ⟨rfl, put8_below (HB.out.trans (hq.out.mono (by omega))) (Nat.le_refl _) c⟩
        · have hfin : Aside0 (parseV ws vt = (zeroC, 82)) := ⟨by rw [h6, parseV_many ws j h2 hm (by rw [← HFL.out]; exact hn)]⟩
          have hnB : ((ws.length : Int) != (fm.size : Int) + 1) = true := by rw [bne_iff_ne]; omega
          obtain ⟨r0, r1, r2, r3, r4, r5, r6, r7, rf⟩ := cmd_cells hRo
          have HRo := Aside0.mk hRo
          clear hRo hn h6 hm
          go_wp2
          refine rparse_close (b := w.heap.size) (c := zeroC) (code := 82) rfl rfl (put8_cmd (c0 := zeroC) HRo.out zeroC) ?_
          rw [hfin.out]
          exact ⟨rfl, put8_below (HB.out.trans (hq.out.mono (by omega))) (Nat.le_refl _) zeroC⟩

end Go.Proofs.YtamimpomeigllaaDoor.V
