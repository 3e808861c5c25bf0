/- Own text (printed by gen15.py): the walk of the reference's ReadEvent. -/
import Derived.Test.YtokioddaonknpaaDoorE14
import Derived.Test.YtokioddaonknpaaDoorE9
namespace Go.Proofs.YtokioddaonknpaaDoor.A
open Go.RowKit Go.Proofs.YtokioddaonknpaaDoorW.PrintWords Go.Proofs.YtokioddaonknpaaDoor.PAnswersReads
set_option linter.unusedSimpArgs false
set_option linter.unusedVariables false
set_option maxHeartbeats 8000000
set_option maxRecDepth 100000
theorem Km {p : Prop} (h : p) : Aside0 p := ⟨h⟩
theorem ba {w : World} {o : Obj} : Below w.heap.size w (w.alloc o) := (Below.refl _ _).alloc (Nat.le_refl _) o

/-- The text cut, the words' slice laid bare. -/
def CutPost (l : List ByteArray) (m : Nat) (w : World) (x : Ending) (w' : World) : Prop := ∃ g c, x = .returned (.slice (some ⟨g, 0, none⟩) (m + 1) c) ∧ w.heap.size ≤ g ∧ m + 1 ≤ c ∧ Kd.C Kd.string w' (some ⟨g, 0, none⟩) (m + 1) l ∧ Below w.heap.size w w'
theorem cut_any (s : ByteArray) (hs : s.size ≤ 2147483648) (l : List ByteArray) (m : Nat) (hl : l = (splA [] s.data.toList).map ofL) (hm : l.length = m + 1) (w : World) : Calls Tryd.prog 28 #[.string s, .int .u8 32] w (CutPost l m w) := by
  have hf := cut_f s 32 (by omega)
  rw [splB_A, ← hl] at hf
  refine (backfillref09_cut.calls _ s _ l w hf).mono ?_
  rintro x w' ⟨v, rfl, hR, hb⟩
  obtain ⟨g, c, rfl, hg, _⟩ := Kd.R_form hR (by omega)
  obtain ⟨_, h1, h2⟩ := Kd.R_reads' hR
  rw [hm] at h1 h2 ⊢
  exact ⟨g, c, rfl, hg, h1, h2, hb⟩
theorem calls_gen {f : Nat} {args : Array Value} {w0 : World} {Q : Ending → World → Prop} (h : ∀ W, W = w0 → Calls Tryd.prog f args W Q) : Calls Tryd.prog f args w0 Q := h w0 rfl
/-- The state whose word is x, as a loop up from 3 finds it. -/
def stAt : Nat → ByteArray → Int
  | 0, _ => 0
  | j + 1, x => if stateL (3 + (j : Int)) = x.data.toList then 3 + (j : Int) else stAt j x
def RdSome (n : List Int) (W : World) (x : Ending) (w' : World) : Prop := ∃ A3 c3, x = .returned (.tuple #[.slice A3 n.length c3, .bool true]) ∧ n.length ≤ c3 ∧ Kd.C (Kd.int .i64) w' A3 n.length n ∧ (∀ ad, A3 = some ad → 0 < n.length → W.heap.size ≤ ad.block) ∧ Below W.heap.size W w'
def RdNone (W : World) (x : Ending) (w' : World) : Prop := ∃ v, x = .returned (.tuple #[v, .bool false]) ∧ Below W.heap.size W w'

theorem rr_n0 (s : ByteArray) (l : List ByteArray) (m : Nat) (x0 : ByteArray) (hx0 : x0 = l.getD 0 ByteArray.empty) (hm : l.length = m + 1) (hmb : m ≤ 2147483649) (hw3 : x0 ≠ ⟨#[101, 110, 100]⟩) (w : World) (hE : Env w)
    (hsp : ∀ W, Env W → Calls Tryd.prog 28 #[.string s, .int .u8 32] W (CutPost l m W)) (hm1 : 1 ≤ m) (hrd : ∀ W A2 c2, Kd.C Kd.string W A2 m (l.drop 1) → m ≤ c2 → Calls Tryd.prog 30 #[.slice A2 m c2] W (RdNone W)) :
    Calls Tryd.prog 11 #[.string s] w (RdOf (evZ, 90) w) := by
  have hv3 : (x0.toList == (⟨#[101, 110, 100]⟩ : ByteArray).toList) = false := by rw [beq_eq_false_iff_ne]; exact fun h => hw3 (by rw [← ofL_data x0, ← toList_data, h, toList_data, ofL_data])
  have hu3 : (x0.toList == [101, 110, 100]) = false := by rw [beq_eq_false_iff_ne]; exact fun h => hw3 (by rw [← ofL_data x0, ← toList_data, h]; rfl)
  clear hw3
  have hB0 := (Below.refl w.heap.size w).alloc (Nat.le_refl _) (.cells (evCells evZ none 0) 24)
  have HE0 := Km (alloc_ev (w := w) rfl evZ none 0)
  have HS := Lib.hid (hsp _ (hE.step hB0))
  have HB0 := Km hB0
  have HE := Km hE
  have HX := Km hx0
  have HM := Km hm
  clear hsp hB0 hE hx0 hm
  have i1 : (0 : Int) < ((m + 1 : Nat) : Int) := by omega
  have HRD := Lib.hid hrd
  clear hrd
  go_enter Tryd.func11, Tryd.ntmps11
  go_wp2_with (go_at_call 28; refine HS.out.mono ?_; rintro x w1 ⟨g, c, rfl, hg, hc, hC, hb1⟩; refine Hid.out ?_)
  refine Lib.hid ?_
  have hB1 := HB0.out.trans (hb1.mono HB0.out.size)
  obtain ⟨ad, e, hc0⟩ := Kd.at_string hC 0 (by omega) i1
  cases e
  replace hc0 : w1.cell? ⟨g, 0, none⟩ = some (.string x0) := hc0.trans (by rw [HX.out]; rfl)
  have hgl := World.block_lt_of_cell? w1 _ hc0
  have HGL := Km hgl
  have HC0 := Km hc0
  have HR1 := Km (ev_below HE0.out hb1)
  have HHC := Km hc
  have HHG := Km hg
  have HC1 := Km (Kd.C_alloc hC (.cells (evCells evZ none 0) 24))
  have HB2 := Km (below_alloc hB1 (.cells (evCells evZ none 0) 24))
  have HR2 := Km (ev_below HR1.out (ba (o := .cells (evCells evZ none 0) 24)))
  have HE2 := Km (alloc_ev (w := w1) rfl evZ none 0)
  clear hB1 hb1 hC HB0 HE0 hg HR1 hc
  have i5 : ¬ c = 1 := by have := HHC.out; omega
  have HCT := Km (show Kd.C Kd.string (w1.alloc (.cells (evCells evZ none 0) 24)) (some ⟨g, 1, none⟩) m (l.drop 1) by
    have h := Kd.C_drop (m := 1) (c := c) (k := Kd.string) (by rw [HM.out]; exact HC1.out) (by rw [HM.out]; omega) (by rw [HM.out]; exact HHC.out)
    rw [if_neg i5, List.length_drop, HM.out] at h
    exact h)
  clear hm1
  go_wp2_with (go_at_call 30; refine (HRD.out _ _ _ HCT.out (by have := HHC.out; omega)).mono ?_; rintro x w2 ⟨v3, rfl, hb2⟩; refine Hid.out ?_)
  refine Lib.hid ?_
  have HR3 := Km (ev_below HR2.out hb2)
  have HB3 := Km (HB2.out.trans (hb2.mono HB2.out.size))
  obtain ⟨r0, r1, r2, r3, r4, r5, rf⟩ := ev_cells HR3.out
  clear hb2 hc0 hgl i5
  go_wp2
  refine rd_close (b := w.heap.size) (e := evZ) (A := none) (c := 0) (code := 90) rfl rfl (put6_ev HR3.out evZ none 0) ?_
  exact ⟨none, 0, rfl, Nat.le_refl _, Kd.C_nil _ _, put6_below HB3.out (Nat.le_refl _) evZ none 0⟩

theorem rr_n3 (s : ByteArray) (l : List ByteArray) (m : Nat) (x0 : ByteArray) (hx0 : x0 = l.getD 0 ByteArray.empty) (hm : l.length = m + 1) (hmb : m ≤ 2147483649) (hx : x0 = ⟨#[101, 110, 100]⟩) (w : World) (hE : Env w)
    (hsp : ∀ W, Env W → Calls Tryd.prog 28 #[.string s, .int .u8 32] W (CutPost l m W)) (hm1 : 1 ≤ m) (h4 : ¬ m = 3) (hrd : ∀ W A2 c2, Kd.C Kd.string W A2 m (l.drop 1) → m ≤ c2 → Calls Tryd.prog 30 #[.slice A2 m c2] W (RdNone W)) :
    Calls Tryd.prog 11 #[.string s] w (RdOf (evZ, 90) w) := by
  subst hx
  have hB0 := (Below.refl w.heap.size w).alloc (Nat.le_refl _) (.cells (evCells evZ none 0) 24)
  have HE0 := Km (alloc_ev (w := w) rfl evZ none 0)
  have HS := Lib.hid (hsp _ (hE.step hB0))
  have HB0 := Km hB0
  have HE := Km hE
  have HX := Km hx0
  have HM := Km hm
  clear hsp hB0 hE hx0 hm
  have i1 : (0 : Int) < ((m + 1 : Nat) : Int) := by omega
  have HRD := Lib.hid hrd
  clear hrd
  have i4 : (((m + 1 : Nat) : Int) == 4) = false := by rw [beq_eq_false_iff_ne]; omega
  have i4b : ((m : Int) + 1 == 4) = false := by rw [beq_eq_false_iff_ne]; omega
  go_enter Tryd.func11, Tryd.ntmps11
  go_wp2_with (go_at_call 28; refine HS.out.mono ?_; rintro x w1 ⟨g, c, rfl, hg, hc, hC, hb1⟩; refine Hid.out ?_)
  refine Lib.hid ?_
  have hB1 := HB0.out.trans (hb1.mono HB0.out.size)
  obtain ⟨ad, e, hc0⟩ := Kd.at_string hC 0 (by omega) i1
  cases e
  replace hc0 : w1.cell? ⟨g, 0, none⟩ = some (.string ⟨#[101, 110, 100]⟩) := hc0.trans (by rw [HX.out]; rfl)
  have hgl := World.block_lt_of_cell? w1 _ hc0
  have HGL := Km hgl
  have HC0 := Km hc0
  have HR1 := Km (ev_below HE0.out hb1)
  have HHC := Km hc
  have HHG := Km hg
  have HC1 := Km (Kd.C_alloc hC (.cells (evCells evZ none 0) 24))
  have HB2 := Km (below_alloc hB1 (.cells (evCells evZ none 0) 24))
  have HR2 := Km (ev_below HR1.out (ba (o := .cells (evCells evZ none 0) 24)))
  have HE2 := Km (alloc_ev (w := w1) rfl evZ none 0)
  clear hB1 hb1 hC HB0 HE0 hg HR1 hc
  have i5 : ¬ c = 1 := by have := HHC.out; omega
  have HCT := Km (show Kd.C Kd.string (w1.alloc (.cells (evCells evZ none 0) 24)) (some ⟨g, 1, none⟩) m (l.drop 1) by
    have h := Kd.C_drop (m := 1) (c := c) (k := Kd.string) (by rw [HM.out]; exact HC1.out) (by rw [HM.out]; omega) (by rw [HM.out]; exact HHC.out)
    rw [if_neg i5, List.length_drop, HM.out] at h
    exact h)
  clear hm1
  go_wp2_with (go_at_call 30; refine (HRD.out _ _ _ HCT.out (by have := HHC.out; omega)).mono ?_; rintro x w2 ⟨v3, rfl, hb2⟩; refine Hid.out ?_)
  refine Lib.hid ?_
  have HR3 := Km (ev_below HR2.out hb2)
  have HB3 := Km (HB2.out.trans (hb2.mono HB2.out.size))
  obtain ⟨r0, r1, r2, r3, r4, r5, rf⟩ := ev_cells HR3.out
  clear hb2 hc0 hgl i5
  go_wp2
  refine rd_close (b := w.heap.size) (e := evZ) (A := none) (c := 0) (code := 90) rfl rfl (put6_ev HR3.out evZ none 0) ?_
  exact ⟨none, 0, rfl, Nat.le_refl _, Kd.C_nil _ _, put6_below HB3.out (Nat.le_refl _) evZ none 0⟩

theorem rr_s1 (s : ByteArray) (l : List ByteArray) (m : Nat) (x0 : ByteArray) (hx0 : x0 = l.getD 0 ByteArray.empty) (hm : l.length = m + 1) (hmb : m ≤ 2147483649) (hx : x0 = ⟨#[115, 117, 98, 109, 105, 116]⟩) (w : World) (hE : Env w)
    (hsp : ∀ W, Env W → Calls Tryd.prog 28 #[.string s, .int .u8 32] W (CutPost l m W)) (n : List Int) (hf : ((n.length : Int) == 4) = false) (hrd : ∀ W A2 c2, Kd.C Kd.string W A2 m (l.drop 1) → m ≤ c2 → Calls Tryd.prog 30 #[.slice A2 m c2] W (RdSome n W)) :
    Calls Tryd.prog 11 #[.string s] w (RdOf (evZ, 90) w) := by
  subst hx
  have hB0 := (Below.refl w.heap.size w).alloc (Nat.le_refl _) (.cells (evCells evZ none 0) 24)
  have HE0 := Km (alloc_ev (w := w) rfl evZ none 0)
  have HS := Lib.hid (hsp _ (hE.step hB0))
  have HB0 := Km hB0
  have HE := Km hE
  have HX := Km hx0
  have HM := Km hm
  clear hsp hB0 hE hx0 hm
  have i1 : (0 : Int) < ((m + 1 : Nat) : Int) := by omega
  have HRD := Lib.hid hrd
  clear hrd
  go_enter Tryd.func11, Tryd.ntmps11
  go_wp2_with (go_at_call 28; refine HS.out.mono ?_; rintro x w1 ⟨g, c, rfl, hg, hc, hC, hb1⟩; refine Hid.out ?_)
  refine Lib.hid ?_
  have hB1 := HB0.out.trans (hb1.mono HB0.out.size)
  obtain ⟨ad, e, hc0⟩ := Kd.at_string hC 0 (by omega) i1
  cases e
  replace hc0 : w1.cell? ⟨g, 0, none⟩ = some (.string ⟨#[115, 117, 98, 109, 105, 116]⟩) := hc0.trans (by rw [HX.out]; rfl)
  have hgl := World.block_lt_of_cell? w1 _ hc0
  have HGL := Km hgl
  have HC0 := Km hc0
  have HR1 := Km (ev_below HE0.out hb1)
  have HHC := Km hc
  have HHG := Km hg
  have HC1 := Km (Kd.C_alloc hC (.cells (evCells evZ none 0) 24))
  have HB2 := Km (below_alloc hB1 (.cells (evCells evZ none 0) 24))
  have HR2 := Km (ev_below HR1.out (ba (o := .cells (evCells evZ none 0) 24)))
  have HE2 := Km (alloc_ev (w := w1) rfl evZ none 0)
  clear hB1 hb1 hC HB0 HE0 hg HR1 hc
  have HCT1 := Km (show c = 1 → Kd.C Kd.string (w1.alloc (.cells (evCells evZ none 0) 24)) (some ⟨g, 0, none⟩) m (l.drop 1) from fun h1 => by
    have h0 : m = 0 := by have := HHC.out; omega
    exact ⟨by rw [List.length_drop, HM.out]; omega, by omega, fun h => by omega⟩)
  have HCT2 := Km (show ¬ c = 1 → Kd.C Kd.string (w1.alloc (.cells (evCells evZ none 0) 24)) (some ⟨g, 1, none⟩) m (l.drop 1) from fun h1 => by
    have h := Kd.C_drop (m := 1) (c := c) (k := Kd.string) (by rw [HM.out]; exact HC1.out) (by rw [HM.out]; omega) (by rw [HM.out]; exact HHC.out)
    rw [if_neg h1, List.length_drop, HM.out] at h
    exact h)
  go_wp2_with (go_at_call 30; refine (HRD.out _ _ _ (by first | exact HCT2.out (by assumption) | exact HCT1.out (by assumption)) (by have := HHC.out; omega)).mono ?_; rintro x w2 ⟨A3, c3, rfl, hc3, hC3, hA3, hb2⟩; refine Hid.out ?_)
  all_goals
    refine Lib.hid ?_
    have HR3 := Km (ev_below HR2.out hb2)
    have HE3 := Km (ev_below HE2.out hb2)
    have HB3 := Km (HB2.out.trans (hb2.mono HB2.out.size))
    have hx2 : w2.cell? ⟨g, 0, none⟩ = some (.string ⟨#[115, 117, 98, 109, 105, 116]⟩) := (hb2.cell (p := ⟨g, 0, none⟩) (by rw [World.size_alloc]; have := HGL.out; show g < _; omega)).trans ((Below.cell ba (p := ⟨g, 0, none⟩) HGL.out).trans HC0.out)
    obtain ⟨r0, r1, r2, r3, r4, r5, rf⟩ := ev_cells HR3.out
    obtain ⟨o0, o1, o2, o3, o4, o5, of_⟩ := ev_cells HE3.out
    clear hb2 hc0 hgl hc3 hC3 hA3
    go_wp2
    refine rd_close (b := w.heap.size) (e := evZ) (A := none) (c := 0) (code := 90) rfl rfl (put6_ev HR3.out evZ none 0) ?_
    exact ⟨none, 0, rfl, Nat.le_refl _, Kd.C_nil _ _, put6_below HB3.out (Nat.le_refl _) evZ none 0⟩

theorem rr_s2 (s : ByteArray) (l : List ByteArray) (m : Nat) (x0 : ByteArray) (hx0 : x0 = l.getD 0 ByteArray.empty) (hm : l.length = m + 1) (hmb : m ≤ 2147483649) (hx : x0 = ⟨#[115, 116, 97, 114, 116]⟩) (w : World) (hE : Env w)
    (hsp : ∀ W, Env W → Calls Tryd.prog 28 #[.string s, .int .u8 32] W (CutPost l m W)) (n : List Int) (hf : decide (2 ≤ (n.length : Int)) = false) (hrd : ∀ W A2 c2, Kd.C Kd.string W A2 m (l.drop 1) → m ≤ c2 → Calls Tryd.prog 30 #[.slice A2 m c2] W (RdSome n W)) :
    Calls Tryd.prog 11 #[.string s] w (RdOf (evZ, 90) w) := by
  subst hx
  have hB0 := (Below.refl w.heap.size w).alloc (Nat.le_refl _) (.cells (evCells evZ none 0) 24)
  have HE0 := Km (alloc_ev (w := w) rfl evZ none 0)
  have HS := Lib.hid (hsp _ (hE.step hB0))
  have HB0 := Km hB0
  have HE := Km hE
  have HX := Km hx0
  have HM := Km hm
  clear hsp hB0 hE hx0 hm
  have i1 : (0 : Int) < ((m + 1 : Nat) : Int) := by omega
  have HRD := Lib.hid hrd
  clear hrd
  go_enter Tryd.func11, Tryd.ntmps11
  go_wp2_with (go_at_call 28; refine HS.out.mono ?_; rintro x w1 ⟨g, c, rfl, hg, hc, hC, hb1⟩; refine Hid.out ?_)
  refine Lib.hid ?_
  have hB1 := HB0.out.trans (hb1.mono HB0.out.size)
  obtain ⟨ad, e, hc0⟩ := Kd.at_string hC 0 (by omega) i1
  cases e
  replace hc0 : w1.cell? ⟨g, 0, none⟩ = some (.string ⟨#[115, 116, 97, 114, 116]⟩) := hc0.trans (by rw [HX.out]; rfl)
  have hgl := World.block_lt_of_cell? w1 _ hc0
  have HGL := Km hgl
  have HC0 := Km hc0
  have HR1 := Km (ev_below HE0.out hb1)
  have HHC := Km hc
  have HHG := Km hg
  have HC1 := Km (Kd.C_alloc hC (.cells (evCells evZ none 0) 24))
  have HB2 := Km (below_alloc hB1 (.cells (evCells evZ none 0) 24))
  have HR2 := Km (ev_below HR1.out (ba (o := .cells (evCells evZ none 0) 24)))
  have HE2 := Km (alloc_ev (w := w1) rfl evZ none 0)
  clear hB1 hb1 hC HB0 HE0 hg HR1 hc
  have HCT1 := Km (show c = 1 → Kd.C Kd.string (w1.alloc (.cells (evCells evZ none 0) 24)) (some ⟨g, 0, none⟩) m (l.drop 1) from fun h1 => by
    have h0 : m = 0 := by have := HHC.out; omega
    exact ⟨by rw [List.length_drop, HM.out]; omega, by omega, fun h => by omega⟩)
  have HCT2 := Km (show ¬ c = 1 → Kd.C Kd.string (w1.alloc (.cells (evCells evZ none 0) 24)) (some ⟨g, 1, none⟩) m (l.drop 1) from fun h1 => by
    have h := Kd.C_drop (m := 1) (c := c) (k := Kd.string) (by rw [HM.out]; exact HC1.out) (by rw [HM.out]; omega) (by rw [HM.out]; exact HHC.out)
    rw [if_neg h1, List.length_drop, HM.out] at h
    exact h)
  go_wp2_with (go_at_call 30; refine (HRD.out _ _ _ (by first | exact HCT2.out (by assumption) | exact HCT1.out (by assumption)) (by have := HHC.out; omega)).mono ?_; rintro x w2 ⟨A3, c3, rfl, hc3, hC3, hA3, hb2⟩; refine Hid.out ?_)
  all_goals
    refine Lib.hid ?_
    have HR3 := Km (ev_below HR2.out hb2)
    have HE3 := Km (ev_below HE2.out hb2)
    have HB3 := Km (HB2.out.trans (hb2.mono HB2.out.size))
    have hx2 : w2.cell? ⟨g, 0, none⟩ = some (.string ⟨#[115, 116, 97, 114, 116]⟩) := (hb2.cell (p := ⟨g, 0, none⟩) (by rw [World.size_alloc]; have := HGL.out; show g < _; omega)).trans ((Below.cell ba (p := ⟨g, 0, none⟩) HGL.out).trans HC0.out)
    obtain ⟨r0, r1, r2, r3, r4, r5, rf⟩ := ev_cells HR3.out
    obtain ⟨o0, o1, o2, o3, o4, o5, of_⟩ := ev_cells HE3.out
    clear hb2 hc0 hgl hc3 hC3 hA3
    go_wp2
    refine rd_close (b := w.heap.size) (e := evZ) (A := none) (c := 0) (code := 90) rfl rfl (put6_ev HR3.out evZ none 0) ?_
    exact ⟨none, 0, rfl, Nat.le_refl _, Kd.C_nil _ _, put6_below HB3.out (Nat.le_refl _) evZ none 0⟩

theorem rr_s3 (s : ByteArray) (l : List ByteArray) (m : Nat) (x0 : ByteArray) (hx0 : x0 = l.getD 0 ByteArray.empty) (hm : l.length = m + 1) (hmb : m ≤ 2147483649) (hx : x0 = ⟨#[101, 110, 100]⟩) (w : World) (hE : Env w)
    (hsp : ∀ W, Env W → Calls Tryd.prog 28 #[.string s, .int .u8 32] W (CutPost l m W)) (h4 : ¬ m = 3) (n : List Int) (hrd : ∀ W A2 c2, Kd.C Kd.string W A2 m (l.drop 1) → m ≤ c2 → Calls Tryd.prog 30 #[.slice A2 m c2] W (RdSome n W)) :
    Calls Tryd.prog 11 #[.string s] w (RdOf (evZ, 90) w) := by
  subst hx
  have hB0 := (Below.refl w.heap.size w).alloc (Nat.le_refl _) (.cells (evCells evZ none 0) 24)
  have HE0 := Km (alloc_ev (w := w) rfl evZ none 0)
  have HS := Lib.hid (hsp _ (hE.step hB0))
  have HB0 := Km hB0
  have HE := Km hE
  have HX := Km hx0
  have HM := Km hm
  clear hsp hB0 hE hx0 hm
  have i1 : (0 : Int) < ((m + 1 : Nat) : Int) := by omega
  have HRD := Lib.hid hrd
  clear hrd
  have i4 : (((m + 1 : Nat) : Int) == 4) = false := by rw [beq_eq_false_iff_ne]; omega
  have i4b : ((m : Int) + 1 == 4) = false := by rw [beq_eq_false_iff_ne]; omega
  go_enter Tryd.func11, Tryd.ntmps11
  go_wp2_with (go_at_call 28; refine HS.out.mono ?_; rintro x w1 ⟨g, c, rfl, hg, hc, hC, hb1⟩; refine Hid.out ?_)
  refine Lib.hid ?_
  have hB1 := HB0.out.trans (hb1.mono HB0.out.size)
  obtain ⟨ad, e, hc0⟩ := Kd.at_string hC 0 (by omega) i1
  cases e
  replace hc0 : w1.cell? ⟨g, 0, none⟩ = some (.string ⟨#[101, 110, 100]⟩) := hc0.trans (by rw [HX.out]; rfl)
  have hgl := World.block_lt_of_cell? w1 _ hc0
  have HGL := Km hgl
  have HC0 := Km hc0
  have HR1 := Km (ev_below HE0.out hb1)
  have HHC := Km hc
  have HHG := Km hg
  have HC1 := Km (Kd.C_alloc hC (.cells (evCells evZ none 0) 24))
  have HB2 := Km (below_alloc hB1 (.cells (evCells evZ none 0) 24))
  have HR2 := Km (ev_below HR1.out (ba (o := .cells (evCells evZ none 0) 24)))
  have HE2 := Km (alloc_ev (w := w1) rfl evZ none 0)
  clear hB1 hb1 hC HB0 HE0 hg HR1 hc
  have HCT1 := Km (show c = 1 → Kd.C Kd.string (w1.alloc (.cells (evCells evZ none 0) 24)) (some ⟨g, 0, none⟩) m (l.drop 1) from fun h1 => by
    have h0 : m = 0 := by have := HHC.out; omega
    exact ⟨by rw [List.length_drop, HM.out]; omega, by omega, fun h => by omega⟩)
  have HCT2 := Km (show ¬ c = 1 → Kd.C Kd.string (w1.alloc (.cells (evCells evZ none 0) 24)) (some ⟨g, 1, none⟩) m (l.drop 1) from fun h1 => by
    have h := Kd.C_drop (m := 1) (c := c) (k := Kd.string) (by rw [HM.out]; exact HC1.out) (by rw [HM.out]; omega) (by rw [HM.out]; exact HHC.out)
    rw [if_neg h1, List.length_drop, HM.out] at h
    exact h)
  go_wp2_with (go_at_call 30; refine (HRD.out _ _ _ (by first | exact HCT2.out (by assumption) | exact HCT1.out (by assumption)) (by have := HHC.out; omega)).mono ?_; rintro x w2 ⟨A3, c3, rfl, hc3, hC3, hA3, hb2⟩; refine Hid.out ?_)
  all_goals
    refine Lib.hid ?_
    have HR3 := Km (ev_below HR2.out hb2)
    have HE3 := Km (ev_below HE2.out hb2)
    have HB3 := Km (HB2.out.trans (hb2.mono HB2.out.size))
    have hx2 : w2.cell? ⟨g, 0, none⟩ = some (.string ⟨#[101, 110, 100]⟩) := (hb2.cell (p := ⟨g, 0, none⟩) (by rw [World.size_alloc]; have := HGL.out; show g < _; omega)).trans ((Below.cell ba (p := ⟨g, 0, none⟩) HGL.out).trans HC0.out)
    obtain ⟨r0, r1, r2, r3, r4, r5, rf⟩ := ev_cells HR3.out
    obtain ⟨o0, o1, o2, o3, o4, o5, of_⟩ := ev_cells HE3.out
    clear hb2 hc0 hgl hc3 hC3 hA3
    go_wp2
    refine rd_close (b := w.heap.size) (e := evZ) (A := none) (c := 0) (code := 90) rfl rfl (put6_ev HR3.out evZ none 0) ?_
    exact ⟨none, 0, rfl, Nat.le_refl _, Kd.C_nil _ _, put6_below HB3.out (Nat.le_refl _) evZ none 0⟩

theorem rr_s4 (s : ByteArray) (l : List ByteArray) (m : Nat) (x0 : ByteArray) (hx0 : x0 = l.getD 0 ByteArray.empty) (hm : l.length = m + 1) (hmb : m ≤ 2147483649) (hx : x0 = ⟨#[112, 105, 110]⟩) (w : World) (hE : Env w)
    (hsp : ∀ W, Env W → Calls Tryd.prog 28 #[.string s, .int .u8 32] W (CutPost l m W)) (n : List Int) (hf : ((n.length : Int) == 2) = false) (hrd : ∀ W A2 c2, Kd.C Kd.string W A2 m (l.drop 1) → m ≤ c2 → Calls Tryd.prog 30 #[.slice A2 m c2] W (RdSome n W)) :
    Calls Tryd.prog 11 #[.string s] w (RdOf (evZ, 90) w) := by
  subst hx
  have hB0 := (Below.refl w.heap.size w).alloc (Nat.le_refl _) (.cells (evCells evZ none 0) 24)
  have HE0 := Km (alloc_ev (w := w) rfl evZ none 0)
  have HS := Lib.hid (hsp _ (hE.step hB0))
  have HB0 := Km hB0
  have HE := Km hE
  have HX := Km hx0
  have HM := Km hm
  clear hsp hB0 hE hx0 hm
  have i1 : (0 : Int) < ((m + 1 : Nat) : Int) := by omega
  have HRD := Lib.hid hrd
  clear hrd
  go_enter Tryd.func11, Tryd.ntmps11
  go_wp2_with (go_at_call 28; refine HS.out.mono ?_; rintro x w1 ⟨g, c, rfl, hg, hc, hC, hb1⟩; refine Hid.out ?_)
  refine Lib.hid ?_
  have hB1 := HB0.out.trans (hb1.mono HB0.out.size)
  obtain ⟨ad, e, hc0⟩ := Kd.at_string hC 0 (by omega) i1
  cases e
  replace hc0 : w1.cell? ⟨g, 0, none⟩ = some (.string ⟨#[112, 105, 110]⟩) := hc0.trans (by rw [HX.out]; rfl)
  have hgl := World.block_lt_of_cell? w1 _ hc0
  have HGL := Km hgl
  have HC0 := Km hc0
  have HR1 := Km (ev_below HE0.out hb1)
  have HHC := Km hc
  have HHG := Km hg
  have HC1 := Km (Kd.C_alloc hC (.cells (evCells evZ none 0) 24))
  have HB2 := Km (below_alloc hB1 (.cells (evCells evZ none 0) 24))
  have HR2 := Km (ev_below HR1.out (ba (o := .cells (evCells evZ none 0) 24)))
  have HE2 := Km (alloc_ev (w := w1) rfl evZ none 0)
  clear hB1 hb1 hC HB0 HE0 hg HR1 hc
  have HCT1 := Km (show c = 1 → Kd.C Kd.string (w1.alloc (.cells (evCells evZ none 0) 24)) (some ⟨g, 0, none⟩) m (l.drop 1) from fun h1 => by
    have h0 : m = 0 := by have := HHC.out; omega
    exact ⟨by rw [List.length_drop, HM.out]; omega, by omega, fun h => by omega⟩)
  have HCT2 := Km (show ¬ c = 1 → Kd.C Kd.string (w1.alloc (.cells (evCells evZ none 0) 24)) (some ⟨g, 1, none⟩) m (l.drop 1) from fun h1 => by
    have h := Kd.C_drop (m := 1) (c := c) (k := Kd.string) (by rw [HM.out]; exact HC1.out) (by rw [HM.out]; omega) (by rw [HM.out]; exact HHC.out)
    rw [if_neg h1, List.length_drop, HM.out] at h
    exact h)
  go_wp2_with (go_at_call 30; refine (HRD.out _ _ _ (by first | exact HCT2.out (by assumption) | exact HCT1.out (by assumption)) (by have := HHC.out; omega)).mono ?_; rintro x w2 ⟨A3, c3, rfl, hc3, hC3, hA3, hb2⟩; refine Hid.out ?_)
  all_goals
    refine Lib.hid ?_
    have HR3 := Km (ev_below HR2.out hb2)
    have HE3 := Km (ev_below HE2.out hb2)
    have HB3 := Km (HB2.out.trans (hb2.mono HB2.out.size))
    have hx2 : w2.cell? ⟨g, 0, none⟩ = some (.string ⟨#[112, 105, 110]⟩) := (hb2.cell (p := ⟨g, 0, none⟩) (by rw [World.size_alloc]; have := HGL.out; show g < _; omega)).trans ((Below.cell ba (p := ⟨g, 0, none⟩) HGL.out).trans HC0.out)
    obtain ⟨r0, r1, r2, r3, r4, r5, rf⟩ := ev_cells HR3.out
    obtain ⟨o0, o1, o2, o3, o4, o5, of_⟩ := ev_cells HE3.out
    clear hb2 hc0 hgl hc3 hC3 hA3
    go_wp2
    refine rd_close (b := w.heap.size) (e := evZ) (A := none) (c := 0) (code := 90) rfl rfl (put6_ev HR3.out evZ none 0) ?_
    exact ⟨none, 0, rfl, Nat.le_refl _, Kd.C_nil _ _, put6_below HB3.out (Nat.le_refl _) evZ none 0⟩

theorem rr_s5 (s : ByteArray) (l : List ByteArray) (m : Nat) (x0 : ByteArray) (hx0 : x0 = l.getD 0 ByteArray.empty) (hm : l.length = m + 1) (hmb : m ≤ 2147483649) (hx : x0 = ⟨#[112, 97, 115, 115]⟩) (w : World) (hE : Env w)
    (hsp : ∀ W, Env W → Calls Tryd.prog 28 #[.string s, .int .u8 32] W (CutPost l m W)) (n : List Int) (hf : decide (1 ≤ (n.length : Int)) = false) (hrd : ∀ W A2 c2, Kd.C Kd.string W A2 m (l.drop 1) → m ≤ c2 → Calls Tryd.prog 30 #[.slice A2 m c2] W (RdSome n W)) :
    Calls Tryd.prog 11 #[.string s] w (RdOf (evZ, 90) w) := by
  subst hx
  have hB0 := (Below.refl w.heap.size w).alloc (Nat.le_refl _) (.cells (evCells evZ none 0) 24)
  have HE0 := Km (alloc_ev (w := w) rfl evZ none 0)
  have HS := Lib.hid (hsp _ (hE.step hB0))
  have HB0 := Km hB0
  have HE := Km hE
  have HX := Km hx0
  have HM := Km hm
  clear hsp hB0 hE hx0 hm
  have i1 : (0 : Int) < ((m + 1 : Nat) : Int) := by omega
  have HRD := Lib.hid hrd
  clear hrd
  go_enter Tryd.func11, Tryd.ntmps11
  go_wp2_with (go_at_call 28; refine HS.out.mono ?_; rintro x w1 ⟨g, c, rfl, hg, hc, hC, hb1⟩; refine Hid.out ?_)
  refine Lib.hid ?_
  have hB1 := HB0.out.trans (hb1.mono HB0.out.size)
  obtain ⟨ad, e, hc0⟩ := Kd.at_string hC 0 (by omega) i1
  cases e
  replace hc0 : w1.cell? ⟨g, 0, none⟩ = some (.string ⟨#[112, 97, 115, 115]⟩) := hc0.trans (by rw [HX.out]; rfl)
  have hgl := World.block_lt_of_cell? w1 _ hc0
  have HGL := Km hgl
  have HC0 := Km hc0
  have HR1 := Km (ev_below HE0.out hb1)
  have HHC := Km hc
  have HHG := Km hg
  have HC1 := Km (Kd.C_alloc hC (.cells (evCells evZ none 0) 24))
  have HB2 := Km (below_alloc hB1 (.cells (evCells evZ none 0) 24))
  have HR2 := Km (ev_below HR1.out (ba (o := .cells (evCells evZ none 0) 24)))
  have HE2 := Km (alloc_ev (w := w1) rfl evZ none 0)
  clear hB1 hb1 hC HB0 HE0 hg HR1 hc
  have HCT1 := Km (show c = 1 → Kd.C Kd.string (w1.alloc (.cells (evCells evZ none 0) 24)) (some ⟨g, 0, none⟩) m (l.drop 1) from fun h1 => by
    have h0 : m = 0 := by have := HHC.out; omega
    exact ⟨by rw [List.length_drop, HM.out]; omega, by omega, fun h => by omega⟩)
  have HCT2 := Km (show ¬ c = 1 → Kd.C Kd.string (w1.alloc (.cells (evCells evZ none 0) 24)) (some ⟨g, 1, none⟩) m (l.drop 1) from fun h1 => by
    have h := Kd.C_drop (m := 1) (c := c) (k := Kd.string) (by rw [HM.out]; exact HC1.out) (by rw [HM.out]; omega) (by rw [HM.out]; exact HHC.out)
    rw [if_neg h1, List.length_drop, HM.out] at h
    exact h)
  go_wp2_with (go_at_call 30; refine (HRD.out _ _ _ (by first | exact HCT2.out (by assumption) | exact HCT1.out (by assumption)) (by have := HHC.out; omega)).mono ?_; rintro x w2 ⟨A3, c3, rfl, hc3, hC3, hA3, hb2⟩; refine Hid.out ?_)
  all_goals
    refine Lib.hid ?_
    have HR3 := Km (ev_below HR2.out hb2)
    have HE3 := Km (ev_below HE2.out hb2)
    have HB3 := Km (HB2.out.trans (hb2.mono HB2.out.size))
    have hx2 : w2.cell? ⟨g, 0, none⟩ = some (.string ⟨#[112, 97, 115, 115]⟩) := (hb2.cell (p := ⟨g, 0, none⟩) (by rw [World.size_alloc]; have := HGL.out; show g < _; omega)).trans ((Below.cell ba (p := ⟨g, 0, none⟩) HGL.out).trans HC0.out)
    obtain ⟨r0, r1, r2, r3, r4, r5, rf⟩ := ev_cells HR3.out
    obtain ⟨o0, o1, o2, o3, o4, o5, of_⟩ := ev_cells HE3.out
    clear hb2 hc0 hgl hc3 hC3 hA3
    go_wp2
    refine rd_close (b := w.heap.size) (e := evZ) (A := none) (c := 0) (code := 90) rfl rfl (put6_ev HR3.out evZ none 0) ?_
    exact ⟨none, 0, rfl, Nat.le_refl _, Kd.C_nil _ _, put6_below HB3.out (Nat.le_refl _) evZ none 0⟩

theorem rr_s6 (s : ByteArray) (l : List ByteArray) (m : Nat) (x0 : ByteArray) (hx0 : x0 = l.getD 0 ByteArray.empty) (hm : l.length = m + 1) (hmb : m ≤ 2147483649) (hx : x0 = ⟨#[116, 105, 99, 107]⟩) (w : World) (hE : Env w)
    (hsp : ∀ W, Env W → Calls Tryd.prog 28 #[.string s, .int .u8 32] W (CutPost l m W)) (n : List Int) (hf : ((n.length : Int) == 1) = false) (hrd : ∀ W A2 c2, Kd.C Kd.string W A2 m (l.drop 1) → m ≤ c2 → Calls Tryd.prog 30 #[.slice A2 m c2] W (RdSome n W)) :
    Calls Tryd.prog 11 #[.string s] w (RdOf (evZ, 90) w) := by
  subst hx
  have hB0 := (Below.refl w.heap.size w).alloc (Nat.le_refl _) (.cells (evCells evZ none 0) 24)
  have HE0 := Km (alloc_ev (w := w) rfl evZ none 0)
  have HS := Lib.hid (hsp _ (hE.step hB0))
  have HB0 := Km hB0
  have HE := Km hE
  have HX := Km hx0
  have HM := Km hm
  clear hsp hB0 hE hx0 hm
  have i1 : (0 : Int) < ((m + 1 : Nat) : Int) := by omega
  have HRD := Lib.hid hrd
  clear hrd
  go_enter Tryd.func11, Tryd.ntmps11
  go_wp2_with (go_at_call 28; refine HS.out.mono ?_; rintro x w1 ⟨g, c, rfl, hg, hc, hC, hb1⟩; refine Hid.out ?_)
  refine Lib.hid ?_
  have hB1 := HB0.out.trans (hb1.mono HB0.out.size)
  obtain ⟨ad, e, hc0⟩ := Kd.at_string hC 0 (by omega) i1
  cases e
  replace hc0 : w1.cell? ⟨g, 0, none⟩ = some (.string ⟨#[116, 105, 99, 107]⟩) := hc0.trans (by rw [HX.out]; rfl)
  have hgl := World.block_lt_of_cell? w1 _ hc0
  have HGL := Km hgl
  have HC0 := Km hc0
  have HR1 := Km (ev_below HE0.out hb1)
  have HHC := Km hc
  have HHG := Km hg
  have HC1 := Km (Kd.C_alloc hC (.cells (evCells evZ none 0) 24))
  have HB2 := Km (below_alloc hB1 (.cells (evCells evZ none 0) 24))
  have HR2 := Km (ev_below HR1.out (ba (o := .cells (evCells evZ none 0) 24)))
  have HE2 := Km (alloc_ev (w := w1) rfl evZ none 0)
  clear hB1 hb1 hC HB0 HE0 hg HR1 hc
  have HCT1 := Km (show c = 1 → Kd.C Kd.string (w1.alloc (.cells (evCells evZ none 0) 24)) (some ⟨g, 0, none⟩) m (l.drop 1) from fun h1 => by
    have h0 : m = 0 := by have := HHC.out; omega
    exact ⟨by rw [List.length_drop, HM.out]; omega, by omega, fun h => by omega⟩)
  have HCT2 := Km (show ¬ c = 1 → Kd.C Kd.string (w1.alloc (.cells (evCells evZ none 0) 24)) (some ⟨g, 1, none⟩) m (l.drop 1) from fun h1 => by
    have h := Kd.C_drop (m := 1) (c := c) (k := Kd.string) (by rw [HM.out]; exact HC1.out) (by rw [HM.out]; omega) (by rw [HM.out]; exact HHC.out)
    rw [if_neg h1, List.length_drop, HM.out] at h
    exact h)
  go_wp2_with (go_at_call 30; refine (HRD.out _ _ _ (by first | exact HCT2.out (by assumption) | exact HCT1.out (by assumption)) (by have := HHC.out; omega)).mono ?_; rintro x w2 ⟨A3, c3, rfl, hc3, hC3, hA3, hb2⟩; refine Hid.out ?_)
  all_goals
    refine Lib.hid ?_
    have HR3 := Km (ev_below HR2.out hb2)
    have HE3 := Km (ev_below HE2.out hb2)
    have HB3 := Km (HB2.out.trans (hb2.mono HB2.out.size))
    have hx2 : w2.cell? ⟨g, 0, none⟩ = some (.string ⟨#[116, 105, 99, 107]⟩) := (hb2.cell (p := ⟨g, 0, none⟩) (by rw [World.size_alloc]; have := HGL.out; show g < _; omega)).trans ((Below.cell ba (p := ⟨g, 0, none⟩) HGL.out).trans HC0.out)
    obtain ⟨r0, r1, r2, r3, r4, r5, rf⟩ := ev_cells HR3.out
    obtain ⟨o0, o1, o2, o3, o4, o5, of_⟩ := ev_cells HE3.out
    clear hb2 hc0 hgl hc3 hC3 hA3
    go_wp2
    refine rd_close (b := w.heap.size) (e := evZ) (A := none) (c := 0) (code := 90) rfl rfl (put6_ev HR3.out evZ none 0) ?_
    exact ⟨none, 0, rfl, Nat.le_refl _, Kd.C_nil _ _, put6_below HB3.out (Nat.le_refl _) evZ none 0⟩

theorem rr_s7 (s : ByteArray) (l : List ByteArray) (m : Nat) (x0 : ByteArray) (hx0 : x0 = l.getD 0 ByteArray.empty) (hm : l.length = m + 1) (hmb : m ≤ 2147483649) (hx : x0 = ⟨#[100, 101, 99, 97, 121]⟩) (w : World) (hE : Env w)
    (hsp : ∀ W, Env W → Calls Tryd.prog 28 #[.string s, .int .u8 32] W (CutPost l m W)) (n : List Int) (hf : ((n.length : Int) == 1) = false) (hrd : ∀ W A2 c2, Kd.C Kd.string W A2 m (l.drop 1) → m ≤ c2 → Calls Tryd.prog 30 #[.slice A2 m c2] W (RdSome n W)) :
    Calls Tryd.prog 11 #[.string s] w (RdOf (evZ, 90) w) := by
  subst hx
  have hB0 := (Below.refl w.heap.size w).alloc (Nat.le_refl _) (.cells (evCells evZ none 0) 24)
  have HE0 := Km (alloc_ev (w := w) rfl evZ none 0)
  have HS := Lib.hid (hsp _ (hE.step hB0))
  have HB0 := Km hB0
  have HE := Km hE
  have HX := Km hx0
  have HM := Km hm
  clear hsp hB0 hE hx0 hm
  have i1 : (0 : Int) < ((m + 1 : Nat) : Int) := by omega
  have HRD := Lib.hid hrd
  clear hrd
  go_enter Tryd.func11, Tryd.ntmps11
  go_wp2_with (go_at_call 28; refine HS.out.mono ?_; rintro x w1 ⟨g, c, rfl, hg, hc, hC, hb1⟩; refine Hid.out ?_)
  refine Lib.hid ?_
  have hB1 := HB0.out.trans (hb1.mono HB0.out.size)
  obtain ⟨ad, e, hc0⟩ := Kd.at_string hC 0 (by omega) i1
  cases e
  replace hc0 : w1.cell? ⟨g, 0, none⟩ = some (.string ⟨#[100, 101, 99, 97, 121]⟩) := hc0.trans (by rw [HX.out]; rfl)
  have hgl := World.block_lt_of_cell? w1 _ hc0
  have HGL := Km hgl
  have HC0 := Km hc0
  have HR1 := Km (ev_below HE0.out hb1)
  have HHC := Km hc
  have HHG := Km hg
  have HC1 := Km (Kd.C_alloc hC (.cells (evCells evZ none 0) 24))
  have HB2 := Km (below_alloc hB1 (.cells (evCells evZ none 0) 24))
  have HR2 := Km (ev_below HR1.out (ba (o := .cells (evCells evZ none 0) 24)))
  have HE2 := Km (alloc_ev (w := w1) rfl evZ none 0)
  clear hB1 hb1 hC HB0 HE0 hg HR1 hc
  have HCT1 := Km (show c = 1 → Kd.C Kd.string (w1.alloc (.cells (evCells evZ none 0) 24)) (some ⟨g, 0, none⟩) m (l.drop 1) from fun h1 => by
    have h0 : m = 0 := by have := HHC.out; omega
    exact ⟨by rw [List.length_drop, HM.out]; omega, by omega, fun h => by omega⟩)
  have HCT2 := Km (show ¬ c = 1 → Kd.C Kd.string (w1.alloc (.cells (evCells evZ none 0) 24)) (some ⟨g, 1, none⟩) m (l.drop 1) from fun h1 => by
    have h := Kd.C_drop (m := 1) (c := c) (k := Kd.string) (by rw [HM.out]; exact HC1.out) (by rw [HM.out]; omega) (by rw [HM.out]; exact HHC.out)
    rw [if_neg h1, List.length_drop, HM.out] at h
    exact h)
  go_wp2_with (go_at_call 30; refine (HRD.out _ _ _ (by first | exact HCT2.out (by assumption) | exact HCT1.out (by assumption)) (by have := HHC.out; omega)).mono ?_; rintro x w2 ⟨A3, c3, rfl, hc3, hC3, hA3, hb2⟩; refine Hid.out ?_)
  all_goals
    refine Lib.hid ?_
    have HR3 := Km (ev_below HR2.out hb2)
    have HE3 := Km (ev_below HE2.out hb2)
    have HB3 := Km (HB2.out.trans (hb2.mono HB2.out.size))
    have hx2 : w2.cell? ⟨g, 0, none⟩ = some (.string ⟨#[100, 101, 99, 97, 121]⟩) := (hb2.cell (p := ⟨g, 0, none⟩) (by rw [World.size_alloc]; have := HGL.out; show g < _; omega)).trans ((Below.cell ba (p := ⟨g, 0, none⟩) HGL.out).trans HC0.out)
    obtain ⟨r0, r1, r2, r3, r4, r5, rf⟩ := ev_cells HR3.out
    obtain ⟨o0, o1, o2, o3, o4, o5, of_⟩ := ev_cells HE3.out
    clear hb2 hc0 hgl hc3 hC3 hA3
    go_wp2
    refine rd_close (b := w.heap.size) (e := evZ) (A := none) (c := 0) (code := 90) rfl rfl (put6_ev HR3.out evZ none 0) ?_
    exact ⟨none, 0, rfl, Nat.le_refl _, Kd.C_nil _ _, put6_below HB3.out (Nat.le_refl _) evZ none 0⟩

theorem rr_s0 (s : ByteArray) (l : List ByteArray) (m : Nat) (x0 : ByteArray) (hx0 : x0 = l.getD 0 ByteArray.empty) (hm : l.length = m + 1) (hmb : m ≤ 2147483649) (hw1 : x0 ≠ ⟨#[115, 117, 98, 109, 105, 116]⟩) (hw2 : x0 ≠ ⟨#[115, 116, 97, 114, 116]⟩) (hw3 : x0 ≠ ⟨#[101, 110, 100]⟩) (hw4 : x0 ≠ ⟨#[112, 105, 110]⟩) (hw5 : x0 ≠ ⟨#[112, 97, 115, 115]⟩) (hw6 : x0 ≠ ⟨#[116, 105, 99, 107]⟩) (hw7 : x0 ≠ ⟨#[100, 101, 99, 97, 121]⟩) (w : World) (hE : Env w)
    (hsp : ∀ W, Env W → Calls Tryd.prog 28 #[.string s, .int .u8 32] W (CutPost l m W)) (n : List Int) (hrd : ∀ W A2 c2, Kd.C Kd.string W A2 m (l.drop 1) → m ≤ c2 → Calls Tryd.prog 30 #[.slice A2 m c2] W (RdSome n W)) :
    Calls Tryd.prog 11 #[.string s] w (RdOf (evZ, 90) w) := by
  have hv1 : (x0.toList == (⟨#[115, 117, 98, 109, 105, 116]⟩ : ByteArray).toList) = false := by rw [beq_eq_false_iff_ne]; exact fun h => hw1 (by rw [← ofL_data x0, ← toList_data, h, toList_data, ofL_data])
  have hv2 : (x0.toList == (⟨#[115, 116, 97, 114, 116]⟩ : ByteArray).toList) = false := by rw [beq_eq_false_iff_ne]; exact fun h => hw2 (by rw [← ofL_data x0, ← toList_data, h, toList_data, ofL_data])
  have hv3 : (x0.toList == (⟨#[101, 110, 100]⟩ : ByteArray).toList) = false := by rw [beq_eq_false_iff_ne]; exact fun h => hw3 (by rw [← ofL_data x0, ← toList_data, h, toList_data, ofL_data])
  have hv4 : (x0.toList == (⟨#[112, 105, 110]⟩ : ByteArray).toList) = false := by rw [beq_eq_false_iff_ne]; exact fun h => hw4 (by rw [← ofL_data x0, ← toList_data, h, toList_data, ofL_data])
  have hv5 : (x0.toList == (⟨#[112, 97, 115, 115]⟩ : ByteArray).toList) = false := by rw [beq_eq_false_iff_ne]; exact fun h => hw5 (by rw [← ofL_data x0, ← toList_data, h, toList_data, ofL_data])
  have hv6 : (x0.toList == (⟨#[116, 105, 99, 107]⟩ : ByteArray).toList) = false := by rw [beq_eq_false_iff_ne]; exact fun h => hw6 (by rw [← ofL_data x0, ← toList_data, h, toList_data, ofL_data])
  have hv7 : (x0.toList == (⟨#[100, 101, 99, 97, 121]⟩ : ByteArray).toList) = false := by rw [beq_eq_false_iff_ne]; exact fun h => hw7 (by rw [← ofL_data x0, ← toList_data, h, toList_data, ofL_data])
  have hu1 : (x0.toList == [115, 117, 98, 109, 105, 116]) = false := by rw [beq_eq_false_iff_ne]; exact fun h => hw1 (by rw [← ofL_data x0, ← toList_data, h]; rfl)
  have hu2 : (x0.toList == [115, 116, 97, 114, 116]) = false := by rw [beq_eq_false_iff_ne]; exact fun h => hw2 (by rw [← ofL_data x0, ← toList_data, h]; rfl)
  have hu3 : (x0.toList == [101, 110, 100]) = false := by rw [beq_eq_false_iff_ne]; exact fun h => hw3 (by rw [← ofL_data x0, ← toList_data, h]; rfl)
  have hu4 : (x0.toList == [112, 105, 110]) = false := by rw [beq_eq_false_iff_ne]; exact fun h => hw4 (by rw [← ofL_data x0, ← toList_data, h]; rfl)
  have hu5 : (x0.toList == [112, 97, 115, 115]) = false := by rw [beq_eq_false_iff_ne]; exact fun h => hw5 (by rw [← ofL_data x0, ← toList_data, h]; rfl)
  have hu6 : (x0.toList == [116, 105, 99, 107]) = false := by rw [beq_eq_false_iff_ne]; exact fun h => hw6 (by rw [← ofL_data x0, ← toList_data, h]; rfl)
  have hu7 : (x0.toList == [100, 101, 99, 97, 121]) = false := by rw [beq_eq_false_iff_ne]; exact fun h => hw7 (by rw [← ofL_data x0, ← toList_data, h]; rfl)
  clear hw1 hw2 hw3 hw4 hw5 hw6 hw7
  have hB0 := (Below.refl w.heap.size w).alloc (Nat.le_refl _) (.cells (evCells evZ none 0) 24)
  have HE0 := Km (alloc_ev (w := w) rfl evZ none 0)
  have HS := Lib.hid (hsp _ (hE.step hB0))
  have HB0 := Km hB0
  have HE := Km hE
  have HX := Km hx0
  have HM := Km hm
  clear hsp hB0 hE hx0 hm
  have i1 : (0 : Int) < ((m + 1 : Nat) : Int) := by omega
  have HRD := Lib.hid hrd
  clear hrd
  go_enter Tryd.func11, Tryd.ntmps11
  go_wp2_with (go_at_call 28; refine HS.out.mono ?_; rintro x w1 ⟨g, c, rfl, hg, hc, hC, hb1⟩; refine Hid.out ?_)
  refine Lib.hid ?_
  have hB1 := HB0.out.trans (hb1.mono HB0.out.size)
  obtain ⟨ad, e, hc0⟩ := Kd.at_string hC 0 (by omega) i1
  cases e
  replace hc0 : w1.cell? ⟨g, 0, none⟩ = some (.string x0) := hc0.trans (by rw [HX.out]; rfl)
  have hgl := World.block_lt_of_cell? w1 _ hc0
  have HGL := Km hgl
  have HC0 := Km hc0
  have HR1 := Km (ev_below HE0.out hb1)
  have HHC := Km hc
  have HHG := Km hg
  have HC1 := Km (Kd.C_alloc hC (.cells (evCells evZ none 0) 24))
  have HB2 := Km (below_alloc hB1 (.cells (evCells evZ none 0) 24))
  have HR2 := Km (ev_below HR1.out (ba (o := .cells (evCells evZ none 0) 24)))
  have HE2 := Km (alloc_ev (w := w1) rfl evZ none 0)
  clear hB1 hb1 hC HB0 HE0 hg HR1 hc
  have HCT1 := Km (show c = 1 → Kd.C Kd.string (w1.alloc (.cells (evCells evZ none 0) 24)) (some ⟨g, 0, none⟩) m (l.drop 1) from fun h1 => by
    have h0 : m = 0 := by have := HHC.out; omega
    exact ⟨by rw [List.length_drop, HM.out]; omega, by omega, fun h => by omega⟩)
  have HCT2 := Km (show ¬ c = 1 → Kd.C Kd.string (w1.alloc (.cells (evCells evZ none 0) 24)) (some ⟨g, 1, none⟩) m (l.drop 1) from fun h1 => by
    have h := Kd.C_drop (m := 1) (c := c) (k := Kd.string) (by rw [HM.out]; exact HC1.out) (by rw [HM.out]; omega) (by rw [HM.out]; exact HHC.out)
    rw [if_neg h1, List.length_drop, HM.out] at h
    exact h)
  go_wp2_with (go_at_call 30; refine (HRD.out _ _ _ (by first | exact HCT2.out (by assumption) | exact HCT1.out (by assumption)) (by have := HHC.out; omega)).mono ?_; rintro x w2 ⟨A3, c3, rfl, hc3, hC3, hA3, hb2⟩; refine Hid.out ?_)
  all_goals
    refine Lib.hid ?_
    have HR3 := Km (ev_below HR2.out hb2)
    have HE3 := Km (ev_below HE2.out hb2)
    have HB3 := Km (HB2.out.trans (hb2.mono HB2.out.size))
    have hx2 : w2.cell? ⟨g, 0, none⟩ = some (.string x0) := (hb2.cell (p := ⟨g, 0, none⟩) (by rw [World.size_alloc]; have := HGL.out; show g < _; omega)).trans ((Below.cell ba (p := ⟨g, 0, none⟩) HGL.out).trans HC0.out)
    obtain ⟨r0, r1, r2, r3, r4, r5, rf⟩ := ev_cells HR3.out
    obtain ⟨o0, o1, o2, o3, o4, o5, of_⟩ := ev_cells HE3.out
    clear hb2 hc0 hgl hc3 hC3 hA3
    go_wp2
    refine rd_close (b := w.heap.size) (e := evZ) (A := none) (c := 0) (code := 90) rfl rfl (put6_ev HR3.out evZ none 0) ?_
    exact ⟨none, 0, rfl, Nat.le_refl _, Kd.C_nil _ _, put6_below HB3.out (Nat.le_refl _) evZ none 0⟩

end Go.Proofs.YtokioddaonknpaaDoor.A
