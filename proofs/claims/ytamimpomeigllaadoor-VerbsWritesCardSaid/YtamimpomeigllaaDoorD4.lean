/- Own text: the walk of the reference's Print. -/
import Derived.Test.YtamimpomeigllaaDoorD3
namespace Go.Proofs.YtamimpomeigllaaDoor.V
open Go.RowKit Go.Proofs.YtamimpomeigllaaDoorW.PrintWords Go.Proofs.YtamimpomeigllaaDoor.PVerbsReads

theorem checkF_nonneg (c : Cmd) (fs : List Int) : ∀ o, checkF c o fs = 0 → ∀ f ∈ fs, ¬ IsT f → 0 ≤ getN c f := by
  induction fs with
  | nil => intro o _ f hf; cases hf
  | cons g fs ih =>
    intro o h f hf hT
    rw [checkF] at h
    split at h
    · rename_i hg
      split at h
      · rcases List.mem_cons.1 hf with rfl | hf
        · exact absurd hg hT
        · exact ih _ h f hf hT
      · cases h
    · split at h
      · cases h
      · rcases List.mem_cons.1 hf with rfl | hf
        · omega
        · exact ih _ h f hf hT
def tailL (c : Cmd) (fs : List Int) : List UInt8 := Lib.joinTail [32] (fs.map fun f => (fieldS c f).data.toList)
theorem tailL_cons (c : Cmd) (f : Int) (fs : List Int) : tailL c (f :: fs) = 32 :: (fieldS c f).data.toList ++ tailL c fs := by
  simp [tailL, Lib.joinTail]
theorem wordsOf_rest (c : Cmd) (k : Nat) (hk : c.kind = (k : Int) + 1) (j : Nat) (hj : k < j) : j ≤ 13 → wordsOf c (vt.drop j) = [] := by
  intro h13
  obtain ⟨d, hd⟩ : ∃ d, 13 - j = d := ⟨_, rfl⟩
  induction d generalizing j with
  | zero => rw [show j = 13 from by omega]; rfl
  | succ d ih =>
    rw [wordsOf_no c j (by omega) (by rw [vat_kind j (by omega), hk]; omega)]
    exact ih (j + 1) (by omega) (by omega) (by omega)
theorem wordsOf_first (c : Cmd) (k : Nat) (hk : c.kind = (k : Int) + 1) (hk13 : k < 13) (j : Nat) (hj : j ≤ k) : wordsOf c vt = wordsOf c (vt.drop j) := by
  induction j with
  | zero => rfl
  | succ j ih => rw [ih (by omega), wordsOf_no c j (by omega) (by rw [vat_kind j (by omega), hk]; omega)]
theorem joinS_words (c : Cmd) (k : Nat) (hk : c.kind = (k : Int) + 1) (hk13 : k < 13) : (joinS (wordsOf c vt)).data.toList = (vat k).f1.data.toList ++ tailL c (vat k).f2 := by
  rw [wordsOf_first c k hk hk13 k (Nat.le_refl _), wordsOf_yes c k hk13 (by rw [vat_kind k hk13, hk]), wordsOf_rest c k hk (k + 1) (by omega) (by omega)]
  unfold joinS wordsF tailL
  rw [List.append_nil, List.map_cons, Lib.join_cons]
  simp [Function.comp_def]

theorem rprint_bad (c : Cmd) (w : World) (h : checkP c ≠ 0) : Calls Tryd.prog 11 #[.agg (cells c)] w (PrintPost (⟨#[]⟩, checkP c) w) := by
  have hc0 := alloc_cmd (w := w) rfl c
  obtain ⟨c0, c1, c2, c3, c4, c5, c6, c7, cf⟩ := cmd_cells hc0
  have hchk := rcheck_any c (w.alloc (.cells (cells c) 24))
  have HK := Lib.hid hchk
  have hne : (checkP c != 0) = true := by rw [bne_iff_ne]; exact h
  have H84 : Aside0 (checkP c = 84) := ⟨(checkP_two c).resolve_left h⟩
  clear hc0 hchk h
  go_enter Tryd.func11, Tryd.ntmps11
  go_wp2_with (go_at_call 13; refine HK.out.mono ?_; rintro e w1 ⟨rfl, hb⟩)
  go_ret2
  rw [H84.out]
  exact ⟨rfl, ((Below.refl _ _).alloc (Nat.le_refl _) _).trans (hb.mono (by simp))⟩

theorem cat_size {s x : ByteArray} {i : Nat} (h : s.size ≤ 33 * (i + 1)) (hx : x.size ≤ 32) : (s ++ ⟨#[32]⟩ ++ x).size ≤ 33 * (i + 1 + 1) := by
  rw [ByteArray.size_append, ByteArray.size_append]
  show s.size + 1 + x.size ≤ _
  omega
theorem cat_tail {s x : ByteArray} {l t : List UInt8} (h : l = s.data.toList ++ (32 :: x.data.toList ++ t)) : l = (s ++ ⟨#[32]⟩ ++ x).data.toList ++ t := by
  rw [h]; simp

set_option maxHeartbeats 8000000 in
set_option maxRecDepth 100000 in
theorem rprint_good (c : Cmd) (w : World) (hW : Wf c) (h : checkP c = 0) : Calls Tryd.prog 11 #[.agg (cells c)] w (PrintPost (joinS (wordsOf c vt), 0) w) := by
  obtain ⟨k, hk, hkind⟩ : ∃ k : Nat, k < 13 ∧ c.kind = (k : Int) + 1 := by
    by_cases hx : ∃ k : Nat, k < 13 ∧ c.kind = (k : Int) + 1
    · exact hx
    · rw [checkP_nokind c (fun k hk e => hx ⟨k, hk, e⟩)] at h; cases h
  have hck : checkF c (kc c.kind) (vat k).f2 = 0 := by
    have hv : (vat k).f0 = c.kind := by rw [vat_kind k hk, hkind]
    rw [checkP_at c k hk hv k (Nat.le_refl _), checkV_yes c k hk hv] at h
    exact h
  have hok := checkF_ok c _ _ hck
  have hnn := checkF_nonneg c _ _ hck
  have hJ := joinS_words c k hkind hk
  have hc0 := alloc_cmd (w := w) rfl c
  obtain ⟨c0, c1, c2, c3, c4, c5, c6, c7, cf⟩ := cmd_cells hc0
  have hchk := rcheck_any c (w.alloc (.cells (cells c) 24))
  rw [h] at hchk
  have HK := Lib.hid hchk
  have hwk := word_any k hk
  rw [← hkind] at hwk
  have HWK := Lib.hid hwk
  have hfs := form_size k
  have hfl := vat_len k hk
  have hws := vat_word k hk
  have hbtA := form_at k
  obtain ⟨wd, hwd⟩ : ∃ wd, wd = (vat k).f1 := ⟨_, rfl⟩
  obtain ⟨fl, hfle⟩ : ∃ fl, fl = (vat k).f2 := ⟨_, rfl⟩
  obtain ⟨fm, hfm⟩ : ∃ fm, fm = formOf k := ⟨_, rfl⟩
  rw [← hwd, ← hfm] at HWK
  rw [← hwd] at hws hJ
  rw [← hfle, ← hfm] at hfs hbtA
  rw [← hfle] at hfl hJ hok hnn
  have hfs1 : fm.size ≤ fl.length := by omega
  have hfs2 : fl.length ≤ fm.size := by omega
  have HA := Aside0.mk hbtA
  have HJ := Aside0.mk hJ
  have Hok := Aside0.mk hok
  have Hnn := Aside0.mk hnn
  have HC0 := Aside0.mk hc0
  clear hc0 h hwk hJ hbtA hwd hfle hfm hfs hok hnn hchk hck hkind
  go_enter Tryd.func11, Tryd.ntmps11
  go_wp2_with (go_at_call 13; refine HK.out.mono ?_; rintro e w1 ⟨rfl, hb1⟩; have hC1 := cmd_below HC0.out hb1; obtain ⟨c0, c1, c2, c3, c4, c5, c6, c7, cf⟩ := cmd_cells hC1; refine Hid.out ?_)
  refine Lib.hid ?_
  have HC1 := Aside0.mk hC1
  have HB1 := Aside0.mk (((Below.refl _ w).alloc (Nat.le_refl _) (.cells (cells c) 24)).trans (hb1.mono (by simp)))
  have hcl := blk_lt hC1
  clear hC1 hb1 HC0
  go_wp2_with (go_at_call 18; refine (HWK.out _).mono ?_; rintro e w4 ⟨rfl, ⟨⟨n1, rfl⟩⟩⟩)
  go_loopw [4, 6] (fun sv i wr => ∃ (i' : Nat) (s : ByteArray), i' ≤ fl.length ∧ i = .int .i64 i' ∧ sv = .string s ∧ s.size ≤ 33 * (i' + 1) ∧ Aside0 ((joinS (wordsOf c vt)).data.toList = s.data.toList ++ tailL c (fl.drop i')) ∧ Aside0 (IsCmd wr w.heap.size c) ∧ Aside0 (Below w.heap.size w wr)) (fun _ i _ => fl.length - (intOf i).toNat)
  case atStart => exact ⟨0, wd, Nat.zero_le _, rfl, rfl, by omega, ⟨HJ.out⟩, ⟨HC1.out⟩, ⟨pw_below_drewN HB1.out _⟩⟩
  case round =>
    clear c0 c1 c2 c3 c4 c5 c6 c7 cf HC1 HB1 hws HJ
    obtain ⟨i, s, hi, rfl, rfl, hss, hS, hC, hq⟩ := hrel
    by_cases hil : i < fl.length
    · have hst := hS.out
      rw [List.drop_eq_getElem_cons hil, tailL_cons] at hst
      obtain ⟨f, hf⟩ : ∃ f, f = fl[i] := ⟨_, rfl⟩
      rw [← hf] at hst
      have hmem : f ∈ fl := by rw [hf]; exact List.getElem_mem hil
      have hfz := fieldS_size c hW f (Hok.out f hmem)
      have hbt0 : ∀ h : i < fm.size, ((fm[i]'h).toNat : Int) = ((letter f).toNat : Int) := by
        have := HA.out i hil
        rw [List.getD_eq_getElem?_getD, List.getElem?_eq_getElem hil] at this
        rw [hf]
        exact this
      have hnm := named_any f
      have htx := rtext_any w.heap.size f
      have hvl := rvalue_any w.heap.size f
      obtain ⟨L, hL⟩ : ∃ L : Int, L = ((letter f).toNat : Int) := ⟨_, rfl⟩
      rw [← hL] at hbt0 hnm htx hvl
      have HNM := Lib.hid hnm
      have HTX := Lib.hid htx
      have HVL := Lib.hid hvl
      have HM := Aside0.mk hmem
      clear hf hL hnm htx hvl hS hmem
      by_cases hT : IsT f
      · have hTd : decide (IsT f) = true := decide_eq_true hT
        rw [hTd] at HNM
        have hcell := txt_cell hC.out f hT
        have HTX2 := Lib.hid (HTX.out hT)
        have hfS : fieldS c f = getT c f := if_pos hT
        rw [hfS] at hst hfz
        obtain ⟨x, hx⟩ : ∃ x, x = getT c f := ⟨_, rfl⟩
        rw [← hx] at hcell hst hfz
        have Hst := Aside0.mk hst
        clear hT hTd HTX HVL hx hst hfS
        go_wp2_with (first | (go_at_call 19; refine (HNM.out _).mono ?_; rintro e w4 ⟨rfl, ⟨⟨n2, rfl⟩⟩⟩) | (go_at_call 20; refine (HTX2.out _).mono ?_; rintro e w4 ⟨rfl, rfl⟩))
        go_roundw
        case rel => exact ⟨i + 1, s ++ ⟨#[32]⟩ ++ x, by omega, by go_num, rfl, cat_size hss hfz, ⟨cat_tail Hst.out⟩, ⟨hC.out⟩, ⟨pw_below_drewN hq.out _⟩⟩
        case measure => simp [intOf]; omega
      · have hTd : decide (IsT f) = false := decide_eq_false hT
        rw [hTd] at HNM
        have hcell := num_cell' hC.out f
        have hrange := (hW.out f).2
        have hn0 := Hnn.out f HM.out hT
        have HVL2 := Lib.hid (HVL.out hT)
        have hfS : fieldS c f = ⟨(Lib.itoa (getN c f)).toArray⟩ := if_neg hT
        rw [hfS] at hst hfz
        obtain ⟨x, hx⟩ : ∃ x, x = getN c f := ⟨_, rfl⟩
        rw [← hx] at hcell hst hfz hrange hn0
        have hdig := digits_any x hn0 hrange
        obtain ⟨ds, hds⟩ : ∃ ds : ByteArray, ds = ⟨(Lib.itoa x).toArray⟩ := ⟨_, rfl⟩
        rw [← hds] at hdig hst hfz
        have HDG := Lib.hid hdig
        have Hst := Aside0.mk hst
        clear hT hTd HTX HVL hx hst hfS hds hdig
        go_wp2_with (first | (go_at_call 19; refine (HNM.out _).mono ?_; rintro e w4 ⟨rfl, ⟨⟨n2, rfl⟩⟩⟩) | (go_at_call 22; refine (HVL2.out _).mono ?_; rintro e w4 ⟨rfl, rfl⟩) | (go_at_call 27; refine (HDG.out _).mono ?_; rintro e w5 ⟨rfl, hb5⟩))
        go_roundw
        case rel => exact ⟨i + 1, s ++ ⟨#[32]⟩ ++ ds, by omega, by go_num, rfl, cat_size hss hfz, ⟨cat_tail Hst.out⟩, ⟨cmd_below (w := wr.drewN n2) hC.out hb5⟩, ⟨(pw_below_drewN hq.out n2).trans (hb5.mono hq.out.size)⟩⟩
        case measure => simp [intOf]; omega
    · have hend : joinS (wordsOf c vt) = s := by
        have := hS.out
        rw [List.drop_of_length_le (by omega)] at this
        have h2 : (joinS (wordsOf c vt)).data.toList = s.data.toList := by rw [this]; simp [tailL, Lib.joinTail]
        rw [← ofL_data (joinS (wordsOf c vt)), h2, ofL_data]
      have Hend := Aside0.mk hend
      clear hend
      go_wp2
      go_ret2
      rw [Hend.out]
      exact ⟨rfl, hq.out⟩
theorem print_any (c : Cmd) (w : World) (hE : Env w) (hW : Wf c) : Calls Tryd.prog 10 #[.agg (cells c)] w (PrintPost (printP c) w) := by
  unfold printP
  by_cases h : checkP c = 0
  · rw [if_pos h]; exact print_good c w hE hW h
  · rw [if_neg h]; exact print_bad c w h
theorem rprint_any (c : Cmd) (w : World) (hW : Wf c) : Calls Tryd.prog 11 #[.agg (cells c)] w (PrintPost (printP c) w) := by
  unfold printP
  by_cases h : checkP c = 0
  · rw [if_pos h]; exact rprint_good c w hW h
  · rw [if_neg h]; exact rprint_bad c w h
theorem parse_any (line : ByteArray) (w : World) (hE : Env w) (hs : line.size ≤ 140737488351232) : Calls Tryd.prog 6 #[.string line] w (ParsePost (parseP line) w) := by
  unfold parseP
  by_cases h : line.size > 256
  · rw [if_pos h]; exact parse_long line w h hs
  · rw [if_neg h]; exact parse_short line w hE (by omega)
theorem rparse_any (line : ByteArray) (w : World) (hs : line.size ≤ 140737488351232) : Calls Tryd.prog 7 #[.string line] w (ParsePost (parseP line) w) := by
  unfold parseP
  by_cases h : line.size > 256
  · rw [if_pos h]; exact rparse_long line w h hs
  · rw [if_neg h]; exact rparse_short line w (by omega)

end Go.Proofs.YtamimpomeigllaaDoor.V
