/- Own text: verbs.Parse at a line that is not too long. -/
import Derived.Test.YtamimpomeigllaaDoorA4
import Derived.Lib.SplitLaws
import Derived.Outline
namespace Go.Proofs.YtamimpomeigllaaDoor.V
open Go.RowKit Go.Proofs.YtamimpomeigllaaDoorW.PrintWords Go.Proofs.YtamimpomeigllaaDoor.PVerbsReads

theorem words_len (s : ByteArray) : (words s).length = Lib.countB s ⟨#[32]⟩ + 1 := Lib.splitB_all ⟨#[32]⟩ (by decide) 0 _ s rfl
theorem words_pos (s : ByteArray) : 0 < (words s).length := by rw [words_len]; omega

/-- Words lie at block g. -/
structure WS (w : World) (g : Nat) (ws : List ByteArray) : Prop where
  mk :: (lt : g < w.heap.size) (out : ∀ j, j < ws.length → w.cell? ⟨g, j, none⟩ = some (.string (ws.getD j ⟨#[]⟩)))
theorem WS.below {w w' : World} {g : Nat} {ws : List ByteArray} (h : WS w g ws) (hb : Below w.heap.size w w') : WS w' g ws :=
  ⟨Nat.lt_of_lt_of_le h.lt hb.size, fun j hj => (hb.cell (p := ⟨g, j, none⟩) h.lt).trans (h.out j hj)⟩

theorem split_any (s : ByteArray) (hs : s.size ≤ 256) (w : World) (hE : Env w) :
    Calls Tryd.prog 14 #[.string s, .string ⟨#[32]⟩] w fun e w' => ∃ g, e = .returned (.slice (some ⟨g, 0, none⟩) (words s).length (words s).length) ∧ w.heap.size ≤ g ∧ WS w' g (words s) ∧ Below w.heap.size w w' := by
  obtain ⟨m, hm⟩ := hE.ml
  refine (Tryd.strings_Split s ⟨#[32]⟩ m w (by omega) hm (by decide)).mono ?_
  rintro e w' ⟨rfl, rfl⟩
  refine ⟨w.heap.size, by rw [words_len], Nat.le_refl _, ⟨by simp, fun j hj => ?_⟩, (Below.refl _ _).alloc (Nat.le_refl _) _⟩
  have : (w.alloc (.cells ((Lib.splitB ⟨#[32]⟩ 0 (Lib.countB s ⟨#[32]⟩) s).map Value.string).toArray 9)).cell? ⟨w.heap.size, j, none⟩ = ((Lib.splitB ⟨#[32]⟩ 0 (Lib.countB s ⟨#[32]⟩) s).map Value.string).toArray[j]? := by
    exact cell_of_row _ _ j _ _ _ (heap_alloc_new w _)
  rw [this]
  have hj' : j < (Lib.splitB ⟨#[32]⟩ 0 (Lib.countB s ⟨#[32]⟩) s).length := hj
  simp [words, List.getElem?_eq_getElem hj', List.getD_eq_getElem?_getD]

theorem split_size (sep : ByteArray) (k : Nat) : ∀ s : ByteArray, ∀ x ∈ Lib.splitB sep 0 k s, x.size ≤ s.size := by
  induction k with
  | zero => intro s x hx; rw [Lib.splitB_zero] at hx; simp at hx; subst hx; exact Nat.le_refl _
  | succ k ih =>
    intro s x hx
    unfold Lib.splitB at hx
    split at hx
    · simp at hx; subst hx; exact Nat.le_refl _
    · rcases List.mem_cons.1 hx with rfl | hx
      · rw [ByteArray.size_extract]; omega
      · have := ih _ x hx
        rw [ByteArray.size_extract] at this
        omega
theorem words_size (s : ByteArray) (hs : s.size ≤ 256) (j : Nat) : ((words s).getD j ⟨#[]⟩).size ≤ 256 := by
  rw [List.getD_eq_getElem?_getD]
  cases h : (words s)[j]? with
  | none => decide
  | some x =>
    have := split_size _ _ s x (List.mem_of_getElem? h)
    simp only [Option.getD_some]
    omega
theorem alloc_cmd {w : World} {n : Nat} (h : w.heap.size = n) (c : Cmd) : IsCmd (w.alloc (.cells (cells c) 24)) n c := by
  subst h
  exact heap_alloc_new w _

theorem vt_drop (k : Nat) (hk : k < 13) : vt.drop k = vat k :: vt.drop (k + 1) := by
  rw [List.drop_eq_getElem_cons (by rw [vt_len]; exact hk)]
  unfold vat
  rw [List.getD_eq_getElem?_getD, List.getElem?_eq_getElem (by rw [vt_len]; exact hk)]
  rfl
theorem parseV_no (ws : List ByteArray) (k : Nat) (hk : k < 13) (h : ((vat k).f1.toList == (ws.getD 0 ⟨#[]⟩).toList) = false) : parseV ws (vt.drop k) = parseV ws (vt.drop (k + 1)) := by
  rw [vt_drop k hk, parseV, if_neg (by rw [h]; simp)]
theorem parseV_many (ws : List ByteArray) (k : Nat) (hk : k < 13) (h : ((vat k).f1.toList == (ws.getD 0 ⟨#[]⟩).toList) = true) (hn : ws.length ≠ (vat k).f2.length + 1) : parseV ws (vt.drop k) = (zeroC, 82) := by
  rw [vt_drop k hk, parseV, if_pos h, if_neg hn]
theorem parseV_yes (ws : List ByteArray) (k : Nat) (hk : k < 13) (h : ((vat k).f1.toList == (ws.getD 0 ⟨#[]⟩).toList) = true) (hn : ws.length = (vat k).f2.length + 1) :
    parseV ws (vt.drop k) = orFail (readAll (kc (vat k).f0) (vat k).f2 ws.tail) := by
  rw [vt_drop k hk, parseV, if_pos h, if_pos hn]

theorem vat_len (k : Nat) (hk : k < 13) : (vat k).f2.length ≤ 3 := by
  have : ∀ k : Fin 13, (vat k.val).f2.length ≤ 3 := by decide
  exact this ⟨k, hk⟩
/-- What is read of a verb, by plain names. -/
theorem VT.get {w : World} {g : Nat} (h : VT w g) (k : Nat) (hk : k < 13) : ∃ A c kd wd fl, w.cell? ⟨g, k * 3, none⟩ = some (.int .i64 kd) ∧ w.cell? ⟨g, k * 3 + 1, none⟩ = some (.string wd) ∧ w.cell? ⟨g, k * 3 + 2, none⟩ = some (.slice A fl.length c) ∧ fl.length ≤ c ∧ fl.length ≤ 3 ∧ Aside0 (ReadsInt w .i64 A fl.length fl ∧ vat k = ⟨kd, wd, fl⟩) := by
  obtain ⟨A, c, h0, h1, h2, h3, h4⟩ := h.at_ k hk
  exact ⟨A, c, (vat k).f0, (vat k).f1, (vat k).f2, h0, h1, h2, h3, vat_len k hk, ⟨h4, rfl⟩⟩

theorem readAll_step (c : Cmd) (fs : List Int) (ws : List ByteArray) (j : Nat) (hj : j < fs.length) (hw : ws.length = fs.length + 1) :
    readAll c (fs.drop j) (ws.drop (j + 1)) = if readB (fs.getD j 0) (ws.getD (j + 1) ⟨#[]⟩) = true then readAll (readC c (fs.getD j 0) (ws.getD (j + 1) ⟨#[]⟩)) (fs.drop (j + 1)) (ws.drop (j + 1 + 1)) else none := by
  rw [List.drop_eq_getElem_cons hj, List.drop_eq_getElem_cons (show j + 1 < ws.length by omega), readAll]
  rw [List.getD_eq_getElem?_getD, List.getElem?_eq_getElem hj, List.getD_eq_getElem?_getD, List.getElem?_eq_getElem (show j + 1 < ws.length by omega)]
  rfl
theorem readAll_end (c : Cmd) (fs : List Int) (ws : List ByteArray) (j : Nat) (hj : fs.length ≤ j) : readAll c (fs.drop j) (ws.drop (j + 1)) = some c := by
  rw [List.drop_of_length_le hj, readAll]

set_option maxHeartbeats 4000000 in
set_option maxRecDepth 100000 in
theorem parse_short (line : ByteArray) (w : World) (hE : Env w) (hs : line.size ≤ 256) : Calls Tryd.prog 6 #[.string line] w (ParsePost (parseV (words line) vt) w) := by
  have hE1 := Aside0.mk (hE.below hE.n8 ((Below.refl _ w).alloc (Nat.le_refl _) (.cells (cells zeroC) 24)))
  go_enter Tryd.func6, Tryd.ntmps6
  go_wp2_with (go_at_call 14; refine (split_any _ hs _ hE1.out).mono ?_; rintro e w1 ⟨g1, rfl, hg1, hW, hb1⟩; clear hE1)
  refine (verbs_any _).mono ?_
  rintro e w2 ⟨g2, cap2, rfl, hcap2, hg2, hV, hb2⟩
  have hwp := words_pos line
  have hW2 := hW.below hb2
  have hres : IsCmd w2 w.heap.size zeroC := by
    refine cmd_below (cmd_below ?_ hb1) hb2
    exact heap_alloc_new w _
  have hB : Below w.heap.size w w2 := ((((Below.refl _ w).alloc (Nat.le_refl _) _).trans (hb1.mono (by simp))).trans (hb2.mono (by have := hb1.size; simp at this; omega)))
  have hgr : w.heap.size < w2.heap.size := blk_lt hres
  have hg2l : g2 < w2.heap.size := (World.block_lt_of_cell? w2 ⟨g2, 0, none⟩ (hV.at_ 0 (by omega)).choose_spec.choose_spec.1)
  have hgl : g1 < w2.heap.size := hW2.lt
  have hE2 := hE.below hE.n8 hB
  have hsz := Aside0.mk (words_size line hs)
  generalize hws : words line = ws at *
  have HB := Aside0.mk hB
  have HR := Aside0.mk hres
  clear hB hres hb1 hb2 hW hws hg1 hg2
  go_wp2
  go_loopw [18] (fun i wr => ∃ k : Nat, k ≤ 13 ∧ i = .int .i64 k ∧ Aside0 (parseV ws vt = parseV ws (vt.drop k)) ∧ Below w2.heap.size w2 wr) (fun i _ => 13 - (intOf i).toNat)
  case atStart => exact ⟨0, by omega, rfl, ⟨rfl⟩, Below.refl _ _⟩
  case round =>
    obtain ⟨wo, hwo⟩ : ∃ wo, wo = wr := ⟨wr, rfl⟩
    subst hwo
    obtain ⟨k, hk, rfl, hp, hbr⟩ := hrel
    by_cases hlt : k < 13
    · have hkB : decide ((k : Int) < 13) = true := decide_eq_true (by omega)
      obtain ⟨A, cA, kd, wd, fl, h0', h1', h2', hcA, hfl, hrd⟩ := hV.get k hlt
      have h0 : wo.cell? ⟨g2, k * 3, none⟩ = some (.int .i64 kd) := (hbr.cell (p := ⟨g2, k * 3, none⟩) hg2l).trans h0'
      have h1 : wo.cell? ⟨g2, k * 3 + 1, none⟩ = some (.string wd) := (hbr.cell (p := ⟨g2, k * 3 + 1, none⟩) hg2l).trans h1'
      have h2 : wo.cell? ⟨g2, k * 3 + 2, none⟩ = some (.slice A fl.length cA) := (hbr.cell (p := ⟨g2, k * 3 + 2, none⟩) hg2l).trans h2'
      clear h0' h1' h2'
      obtain ⟨x0, hx0⟩ : ∃ x, x = ws.getD 0 ⟨#[]⟩ := ⟨_, rfl⟩
      have hw0 : ∀ o : Obj, (wo.alloc o).cell? ⟨g1, 0, none⟩ = some (.string x0) := fun o => (((hW2.below hbr).below ((Below.refl _ wo).alloc (Nat.le_refl _) o)).out 0 hwp).trans (by rw [hx0])
      have hBr := Aside0.mk hbr
      have hX := Aside0.mk hx0
      clear hbr hx0
      by_cases hm : (wd.toList == x0.toList) = true
      · have hmN : (wd.toList != x0.toList) = false := by rw [bne, hm]; rfl
        have hgrr : w.heap.size < wo.heap.size := Nat.lt_of_lt_of_le hgr hBr.out.size
        have hR := Aside0.mk (show IsCmd wo w.heap.size zeroC from (hBr.out.block _ hgr).trans HR.out)
        by_cases hn : ws.length = fl.length + 1
        · have hnB : ((ws.length : Int) != (fl.length : Int) + 1) = false := by rw [bne_eq_false_iff_eq]; omega
          have hfin := Aside0.mk (hp.out.trans (parseV_yes ws k hlt (by rw [hrd.out.2, ← hX.out]; exact hm) (by rw [hrd.out.2]; exact hn)))
          have hn1 : fl.length + 1 ≤ ws.length := by omega
          have Hn := Aside0.mk hn
          clear hn hp
          go_wp2
          go_quiet (fail)
          go_wp2
          go_loopw [42] (fun j wr => ∃ (j' : Nat) (c : Cmd), j' ≤ fl.length ∧ j = .int .i64 j' ∧ Aside0 (IsCmd wr (wo.heap.size + 1) c) ∧ Aside0 (readAll (kc kd) fl ws.tail = readAll c (fl.drop j') (ws.drop (j' + 1))) ∧ Aside0 (Below w2.heap.size w2 wr)) (fun j _ => fl.length - (intOf j).toNat)
          case atStart => exact ⟨0, kc kd, Nat.zero_le _, rfl, ⟨alloc_cmd (by simp) (kc kd)⟩, ⟨by simp⟩, ⟨(pw_below_drewN (hBr.out.alloc hBr.out.size _) _).alloc (by have := hBr.out.size; simp; omega) _⟩⟩
          case round =>
            obtain ⟨j, c, hj, rfl, hC, hA, hq⟩ := hrel
            have hRq := show IsCmd wr w.heap.size zeroC from (hq.out.block _ hgr).trans HR.out
            by_cases hjl : j < fl.length
            · obtain ⟨ad, rfl, hfc0⟩ := (hrd.out.1.below hq.out).at_ (j : Int) (by omega) (by omega)
              rw [Int.toNat_natCast] at hfc0
              obtain ⟨f, hf⟩ : ∃ f, f = fl.getD j 0 := ⟨_, rfl⟩
              have hfc : wr.cell? (ad.add j) = some (.int .i64 f) := hfc0.trans (by rw [hf]; unfold rd; rw [Int.toNat_natCast])
              have hwc0 := (hW2.below hq.out).out (j + 1) (by omega)
              obtain ⟨x, hx⟩ : ∃ x, x = ws.getD (j + 1) ⟨#[]⟩ := ⟨_, rfl⟩
              rw [← hx] at hwc0
              have hxs : x.size ≤ 256 := by rw [hx]; exact hsz.out _
              have hst := Aside0.mk (readAll_step c fl ws j hjl Hn.out)
              rw [← hf, ← hx] at hst
              have h8 : 8 ≤ wo.heap.size + 1 := by have := hE2.n8; have := hBr.out.size; omega
              have hEq := hE2.below hE2.n8 hq.out
              have hsq := hBr.out.size
              clear hfc0 hf hx
              have hb3 : ∀ w3 : World, wr.grownBy w3 (some (wo.heap.size + 1)) → Below w2.heap.size w2 w3 := fun w3 h => hq.out.grown h hq.out.size (fun i hi => by cases hi; omega)
              have Hb3 := Aside0.mk hb3
              clear hb3
              by_cases hrB : readB f x = true
              · go_wp2_with (go_at_call 16; refine (read_any (wo.heap.size + 1) c f x _ hC.out hEq h8 (by omega)).mono ?_; rintro e w3 ⟨rfl, hC3, hg3⟩)
                go_roundw
                case rel =>
                  exact ⟨j + 1, readC c f x, by omega, by go_num, ⟨hC3⟩, ⟨(hA.out.trans hst.out).trans (if_pos hrB)⟩, ⟨Hb3.out w3 hg3⟩⟩
                case measure => simp [intOf]; omega
              · have hrF : readB f x = false := by simpa using hrB
                have hfin2 : Aside0 (parseV ws vt = (zeroC, 83)) := ⟨by rw [hfin.out, hrd.out.2]; exact congrArg orFail ((hA.out.trans hst.out).trans (if_neg hrB))⟩
                clear hrB
                go_wp2_with (go_at_call 16; refine (read_any (wo.heap.size + 1) c f x _ hC.out hEq h8 (by omega)).mono ?_; rintro e w3 ⟨rfl, hC3, hg3⟩; have hR3 := show IsCmd w3 w.heap.size zeroC from ((Hb3.out w3 hg3).block _ hgr).trans HR.out; obtain ⟨r0, r1, r2, r3, r4, r5, r6, r7, rf⟩ := cmd_cells hR3)
                refine parse_close (b := w.heap.size) (c := zeroC) (code := 83) rfl rfl (put8_cmd (c0 := zeroC) hR3 zeroC) ?_
                rw [hfin2.out]
                exact ⟨rfl, put8_below (HB.out.trans ((Hb3.out w3 hg3).mono (by omega))) (Nat.le_refl _) zeroC⟩
            · have hfin2 : Aside0 (parseV ws vt = (c, 0)) := ⟨by rw [hfin.out, hrd.out.2]; exact congrArg orFail (hA.out.trans (readAll_end c fl ws j (by omega)))⟩
              obtain ⟨r0, r1, r2, r3, r4, r5, r6, r7, rf⟩ := cmd_cells hRq
              obtain ⟨c0, c1, c2, c3, c4, c5, c6, c7, cf⟩ := cmd_cells hC.out
              have HRq := Aside0.mk hRq
              clear hRq
              go_wp2
              refine parse_close (b := w.heap.size) (c := c) (code := 0) rfl rfl (put8_cmd (c0 := zeroC) HRq.out c) ?_
              rw [hfin2.out]
              exact ⟨rfl, put8_below (HB.out.trans (hq.out.mono (by omega))) (Nat.le_refl _) c⟩
        · have hnB : ((ws.length : Int) != (fl.length : Int) + 1) = true := by rw [bne_iff_ne]; omega
          have hfin := Aside0.mk (hp.out.trans (parseV_many ws k hlt (by rw [hrd.out.2, ← hX.out]; exact hm) (by rw [hrd.out.2]; exact hn)))
          obtain ⟨r0, r1, r2, r3, r4, r5, r6, r7, rf⟩ := cmd_cells hR.out
          clear hn hp
          go_wp2
          go_quiet (fail)
          go_wp2
          refine parse_close (b := w.heap.size) (c := zeroC) (code := 82) rfl rfl (put8_cmd (c0 := zeroC) (cmd_below hR.out (pw_below_drewN ((Below.refl _ _).alloc (Nat.le_refl _) _) _)) zeroC) ?_
          rw [hfin.out]
          exact ⟨rfl, put8_below (pw_below_drewN ((HB.out.trans (hBr.out.mono (by omega))).alloc (by omega) _) _) (Nat.le_refl _) zeroC⟩
      · have hmF : (wd.toList == x0.toList) = false := by simpa using hm
        have hp' := Aside0.mk (hp.out.trans (parseV_no ws k hlt (by rw [hrd.out.2, ← hX.out]; exact hmF)))
        have hmN : (wd.toList != x0.toList) = true := by rw [bne, hmF]; rfl
        clear hm hp
        go_wp2
        go_quiet (fail)
        go_wp2
        go_roundw
        case rel => exact ⟨k + 1, by omega, by go_num, hp', pw_below_drewN (hBr.out.alloc hBr.out.size _) _⟩
        case measure => simp [intOf]; omega
    · have hk13 : k = 13 := by omega
      subst hk13
      have hR := Aside0.mk (show IsCmd wo w.heap.size zeroC from (hbr.block _ hgr).trans HR.out)
      obtain ⟨r0, r1, r2, r3, r4, r5, r6, r7, rf⟩ := cmd_cells hR.out
      have hBr := Aside0.mk hbr
      clear hbr
      go_wp2
      refine parse_close (b := w.heap.size) (c := zeroC) (code := 81) rfl rfl (put8_cmd (c0 := zeroC) hR.out zeroC) ?_
      rw [hp.out]
      exact ⟨rfl, put8_below (HB.out.trans (hBr.out.mono (by omega))) (Nat.le_refl _) zeroC⟩

end Go.Proofs.YtamimpomeigllaaDoor.V
