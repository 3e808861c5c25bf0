/- Of any event answers.Event answers what the reference answers, and answers.ReadEvent reads that line as the event: the card of AnswersEvents, with no condition beyond its row's own (the listed variables hold what the program's text lays; the form's reach). -/
import Derived.Test.YtokioddaonknpaaDoorCards
import Derived.Test.YtokioddaonknpaaDoorTie
import Derived.Deep.Fields
import Derived.ProofKit
import Derived.Deep.DeepHandedRow
import Derived.Lib.LaidTab
import Derived.Lay
import Derived.Stop.LaidErr
import Derived.SizedLaws
import Derived.Test.YtokioddaonknpaaDoorGB

namespace Go.Proofs.YtokioddaonknpaaDoor.A
open Go.RowKit Go.Proofs.YtokioddaonknpaaDoorW.PrintWords Go.Proofs.YtokioddaonknpaaDoor.PAnswersReads
set_option linter.unusedSimpArgs false
set_option linter.unusedVariables false

theorem lsame_any (a b : Ev) (A1 A : Option Addr) (c1 c : Nat) (W : World) (h1 : Kd.C (Kd.int .i64) W A1 a.list.length a.list) (hc1 : a.list.length ≤ c1) (h2 : Kd.C (Kd.int .i64) W A b.list.length b.list) (hc : b.list.length ≤ c) (hl : a.list.length ≤ 4294967296) :
    Calls Tryd.prog 10 #[.agg (evCells a A1 c1), .agg (evCells b A c)] W fun e w' => e = .returned (.bool (decide (a = b))) ∧ Below W.heap.size W w' :=
  backfilllaw09_same.calls (a.list.length + 2) a.kind a.job a.tm a.nodes a.limit A1 c1 a.list b.kind b.job b.tm b.nodes b.limit A c b.list _ W h1 hc1 h2 hc (lsame_f a b (by omega) _ (by omega))

set_option maxHeartbeats 8000000 in
set_option maxRecDepth 100000 in
theorem le_big (k jb tm nd lm : Int) (l : List Int) (A : Option Addr) (c : Nat) (w : World) (hl : 4194304 < l.length) :
    Calls Tryd.prog 3 #[.agg #[.int .i64 k, .int .i64 jb, .int .i64 tm, .int .i64 nd, .int .i64 lm, .slice A l.length c]] w fun x w' => x = .returned (.bool true) ∧ Below w.heap.size w w' := by
  have h1 : decide ((4194304 : Int) < (l.length : Int)) = true := decide_eq_true (by omega)
  have h2 : ((4194304 : Int) < (l.length : Int)) = True := eq_true (by omega)
  clear hl
  go_enter Tryd.func3, Tryd.ntmps3
  go_wp2
  go_ret
  exact ⟨rfl, below_alloc (Below.refl _ w) _⟩

set_option maxHeartbeats 8000000 in
set_option maxRecDepth 100000 in
theorem le_bad (k jb tm nd lm : Int) (l : List Int) (A : Option Addr) (c : Nat) (w : World) (hE : Env w) (hl : l.length ≤ 4194304) (hC : Kd.C (Kd.int .i64) w A l.length l)
    (hea : ∀ W, Env W → Kd.C (Kd.int .i64) W A l.length l → Calls Tryd.prog 7 #[.agg #[.int .i64 k, .int .i64 jb, .int .i64 tm, .int .i64 nd, .int .i64 lm, .slice A l.length c]] W fun x w' => x = .returned (.tuple #[.string ⟨#[]⟩, .int .i64 90]) ∧ Below W.heap.size W w')
    (hra : ∀ W, Env W → Kd.C (Kd.int .i64) W A l.length l → Calls Tryd.prog 8 #[.agg #[.int .i64 k, .int .i64 jb, .int .i64 tm, .int .i64 nd, .int .i64 lm, .slice A l.length c]] W fun x w' => x = .returned (.tuple #[.string ⟨#[]⟩, .int .i64 90]) ∧ Below W.heap.size W w')
    (k2 j2 t2 n2 m2 : Int) (l2 : List Int) (c2 : Int)
    (hre : ∀ W, Env W → Calls Tryd.prog 9 #[.string ⟨#[]⟩] W fun x w' => ∃ A2 e2, x = .returned (.tuple #[.agg #[.int .i64 k2, .int .i64 j2, .int .i64 t2, .int .i64 n2, .int .i64 m2, .slice A2 l2.length e2], .int .i64 c2]) ∧ Below W.heap.size W w') :
    Calls Tryd.prog 3 #[.agg #[.int .i64 k, .int .i64 jb, .int .i64 tm, .int .i64 nd, .int .i64 lm, .slice A l.length c]] w fun x w' => x = .returned (.bool true) ∧ Below w.heap.size w w' := by
  have h1 : decide ((4194304 : Int) < (l.length : Int)) = false := decide_eq_false (by omega)
  have h2 : ((4194304 : Int) < (l.length : Int)) = False := eq_false (by omega)
  have hB0 := below_alloc (Below.refl w.heap.size w) (.cells (evCells ⟨k, jb, tm, nd, lm, l⟩ A c) 24)
  have HI0 := Aside0.mk (alloc_ev (w := w) rfl ⟨k, jb, tm, nd, lm, l⟩ A c)
  have HC0 := Aside0.mk (Kd.C_below hC hB0)
  have HB0 := Aside0.mk hB0
  have HE := Aside0.mk hE
  have HEA := Lib.hid hea
  have HRA := Lib.hid hra
  have HRE := Lib.hid hre
  have HSH := Lib.hid (fun W hE => shown_any W hE)
  clear hl hC hea hra hre hB0 hE
  go_enter Tryd.func3, Tryd.ntmps3
  go_wp2_with (go_at_call 6; refine (HSH.out _ (HE.out.step HB0.out)).mono ?_; rintro x w1 ⟨rfl, hb⟩; refine Hid.out ?_)
  refine Lib.hid ?_
  have HI1 := Aside0.mk (ev_below HI0.out hb)
  have HC1 := Aside0.mk (Kd.C_below HC0.out hb)
  have HB1 := Aside0.mk (HB0.out.trans (hb.mono HB0.out.size))
  clear hb HI0 HC0 HB0
  obtain ⟨x0, x1, x2, x3, x4, x5, xf⟩ := ev_cells HI1.out
  dsimp only at x0 x1 x2 x3 x4 x5
  go_wp2_with (go_at_call 7; refine (HEA.out _ (HE.out.step HB1.out) HC1.out).mono ?_; rintro x w2 ⟨rfl, hb⟩; refine Hid.out ?_)
  refine Lib.hid ?_
  clear x0 x1 x2 x3 x4 x5 xf
  have HI2 := Aside0.mk (ev_below HI1.out hb)
  have HC2 := Aside0.mk (Kd.C_below HC1.out hb)
  have HB2 := Aside0.mk (HB1.out.trans (hb.mono HB1.out.size))
  clear hb HI1 HC1 HB1
  obtain ⟨x0, x1, x2, x3, x4, x5, xf⟩ := ev_cells HI2.out
  dsimp only at x0 x1 x2 x3 x4 x5
  go_wp2_with (go_at_call 8; refine (HRA.out _ (HE.out.step HB2.out) HC2.out).mono ?_; rintro x w3 ⟨rfl, hb⟩; refine Hid.out ?_)
  refine Lib.hid ?_
  clear x0 x1 x2 x3 x4 x5 xf
  have HB3 := Aside0.mk (HB2.out.trans (hb.mono HB2.out.size))
  clear hb HI2 HC2 HB2
  go_wp2_with (go_at_call 9; refine (HRE.out _ (HE.out.step HB3.out)).mono ?_; rintro x w4 ⟨A2, e2, rfl, hb⟩; have HB4 := Aside0.mk (HB3.out.trans (hb.mono HB3.out.size)); clear hb)
  go_ret
  exact ⟨rfl, below_alloc HB4.out _⟩

theorem evT_small (e : Ev) (hr : EvR e) (hl : e.list.length ≤ 4194304) : (evT e).length ≤ 2147483648 := by
  obtain ⟨rj, rt, rn, rl, rls⟩ := hr
  have h0 := numsL_len e.list rls
  have h1 := numsL_len [e.tm] (rng_mem1 rt)
  have h2 := numsL_len [e.job, e.tm] (rng_mem2 rj rt)
  have h4 := numsL_len [e.job, e.tm, e.nodes, e.limit] (by simp only [List.mem_cons, List.not_mem_nil, or_false]; rintro n (rfl | rfl | rfl | rfl) <;> assumption)
  have h3 := stateL_len e.nodes
  simp only [List.length_cons, List.length_nil] at h1 h2 h4
  rw [← ofL_size]
  by_cases hk : 1 ≤ e.kind ∧ e.kind ≤ 7
  · have : e.kind = 1 ∨ e.kind = 2 ∨ e.kind = 3 ∨ e.kind = 4 ∨ e.kind = 5 ∨ e.kind = 6 ∨ e.kind = 7 := by omega
    rcases this with h | h | h | h | h | h | h
    · rw [evT1 h]; simp only [ByteArray.size_append, ofL_size]; simp [wSubmit]; omega
    · rw [evT2 h]; simp only [ByteArray.size_append, ofL_size]; simp [wStart]; omega
    · rw [evT3 h]
      have : (⟨#[32]⟩ : ByteArray).size = 1 := rfl
      simp only [ByteArray.size_append, ofL_size, this]; simp [wEnd]; omega
    · rw [evT4 h]; simp only [ByteArray.size_append, ofL_size]; simp [wPin]; omega
    · rw [evT5 h]; simp only [ByteArray.size_append, ofL_size]; simp [wPass]; omega
    · rw [evT6 h]; simp only [ByteArray.size_append, ofL_size]; simp [wTick]; omega
    · rw [evT7 h]; simp only [ByteArray.size_append, ofL_size]; simp [wDecay]; omega
  · have : evW e = [] := by
      unfold evW
      rw [if_neg (by omega), if_neg (by omega), if_neg (by omega), if_neg (by omega), if_neg (by omega), if_neg (by omega), if_neg (by omega)]
    unfold evT
    rw [this]
    simp [Lib.join, ofL_size]

set_option maxHeartbeats 8000000 in
set_option maxRecDepth 100000 in
theorem le_ok (k jb tm nd lm : Int) (l : List Int) (A : Option Addr) (c : Nat) (w : World) (t : ByteArray) (hE : Env w) (hl : l.length ≤ 4194304) (hC : Kd.C (Kd.int .i64) w A l.length l)
    (hea : ∀ W, Env W → Kd.C (Kd.int .i64) W A l.length l → Calls Tryd.prog 7 #[.agg #[.int .i64 k, .int .i64 jb, .int .i64 tm, .int .i64 nd, .int .i64 lm, .slice A l.length c]] W fun x w' => x = .returned (.tuple #[.string t, .int .i64 0]) ∧ Below W.heap.size W w')
    (hra : ∀ W, Env W → Kd.C (Kd.int .i64) W A l.length l → Calls Tryd.prog 8 #[.agg #[.int .i64 k, .int .i64 jb, .int .i64 tm, .int .i64 nd, .int .i64 lm, .slice A l.length c]] W fun x w' => x = .returned (.tuple #[.string t, .int .i64 0]) ∧ Below W.heap.size W w')
    (hre : ∀ W, Env W → Calls Tryd.prog 9 #[.string t] W fun x w' => ∃ A2 e2, x = .returned (.tuple #[.agg #[.int .i64 k, .int .i64 jb, .int .i64 tm, .int .i64 nd, .int .i64 lm, .slice A2 l.length e2], .int .i64 0]) ∧ l.length ≤ e2 ∧ Kd.C (Kd.int .i64) w' A2 l.length l ∧ Below W.heap.size W w')
    (hsm : ∀ W A2 e2, Kd.C (Kd.int .i64) W A l.length l → Kd.C (Kd.int .i64) W A2 l.length l → l.length ≤ e2 → Calls Tryd.prog 10 #[.agg #[.int .i64 k, .int .i64 jb, .int .i64 tm, .int .i64 nd, .int .i64 lm, .slice A l.length c], .agg #[.int .i64 k, .int .i64 jb, .int .i64 tm, .int .i64 nd, .int .i64 lm, .slice A2 l.length e2]] W fun x w' => x = .returned (.bool true) ∧ Below W.heap.size W w') :
    Calls Tryd.prog 3 #[.agg #[.int .i64 k, .int .i64 jb, .int .i64 tm, .int .i64 nd, .int .i64 lm, .slice A l.length c]] w fun x w' => x = .returned (.bool true) ∧ Below w.heap.size w w' := by
  have h1 : decide ((4194304 : Int) < (l.length : Int)) = false := decide_eq_false (by omega)
  have h2 : ((4194304 : Int) < (l.length : Int)) = False := eq_false (by omega)
  have hB0 := below_alloc (Below.refl w.heap.size w) (.cells (evCells ⟨k, jb, tm, nd, lm, l⟩ A c) 24)
  have HI0 := Aside0.mk (alloc_ev (w := w) rfl ⟨k, jb, tm, nd, lm, l⟩ A c)
  have HC0 := Aside0.mk (Kd.C_below hC hB0)
  have HB0 := Aside0.mk hB0
  have HE := Aside0.mk hE
  have HEA := Lib.hid hea
  have HRA := Lib.hid hra
  have HRE := Lib.hid hre
  have HSM := Lib.hid hsm
  have HSH := Lib.hid (fun W hE => shown_any W hE)
  clear hl hC hea hra hre hB0 hE hsm
  go_enter Tryd.func3, Tryd.ntmps3
  go_wp2_with (go_at_call 6; refine (HSH.out _ (HE.out.step HB0.out)).mono ?_; rintro x w1 ⟨rfl, hb⟩; refine Hid.out ?_)
  refine Lib.hid ?_
  have HI1 := Aside0.mk (ev_below HI0.out hb)
  have HC1 := Aside0.mk (Kd.C_below HC0.out hb)
  have HB1 := Aside0.mk (HB0.out.trans (hb.mono HB0.out.size))
  clear hb HI0 HC0 HB0
  obtain ⟨x0, x1, x2, x3, x4, x5, xf⟩ := ev_cells HI1.out
  dsimp only at x0 x1 x2 x3 x4 x5
  go_wp2_with (go_at_call 7; refine (HEA.out _ (HE.out.step HB1.out) HC1.out).mono ?_; rintro x w2 ⟨rfl, hb⟩; refine Hid.out ?_)
  refine Lib.hid ?_
  clear x0 x1 x2 x3 x4 x5 xf
  have HI2 := Aside0.mk (ev_below HI1.out hb)
  have HC2 := Aside0.mk (Kd.C_below HC1.out hb)
  have HB2 := Aside0.mk (HB1.out.trans (hb.mono HB1.out.size))
  clear hb HI1 HC1 HB1
  obtain ⟨x0, x1, x2, x3, x4, x5, xf⟩ := ev_cells HI2.out
  dsimp only at x0 x1 x2 x3 x4 x5
  go_wp2_with (go_at_call 8; refine (HRA.out _ (HE.out.step HB2.out) HC2.out).mono ?_; rintro x w3 ⟨rfl, hb⟩; refine Hid.out ?_)
  refine Lib.hid ?_
  clear x0 x1 x2 x3 x4 x5 xf
  have HI3 := Aside0.mk (ev_below HI2.out hb)
  have HC3 := Aside0.mk (Kd.C_below HC2.out hb)
  have HB3 := Aside0.mk (HB2.out.trans (hb.mono HB2.out.size))
  clear hb HI2 HC2 HB2
  go_wp2_with (go_at_call 9; refine (HRE.out _ (HE.out.step HB3.out)).mono ?_; rintro x w4 ⟨A2, e2, rfl, he2, hC4, hb⟩; refine Hid.out ?_)
  refine Lib.hid ?_
  have HI4 := Aside0.mk (ev_below HI3.out hb)
  have HC4 := Aside0.mk (Kd.C_alloc (Kd.C_below HC3.out hb) (.cells (evCells ⟨k, jb, tm, nd, lm, l⟩ A2 e2) 24))
  have HC5 := Aside0.mk (Kd.C_alloc hC4 (.cells (evCells ⟨k, jb, tm, nd, lm, l⟩ A2 e2) 24))
  have HE2 := Aside0.mk he2
  have HB4 := Aside0.mk (HB3.out.trans (hb.mono HB3.out.size))
  clear hb HI3 HC3 HB3 hC4 he2
  obtain ⟨x0, x1, x2, x3, x4, x5, xf⟩ := ev_cells HI4.out
  dsimp only at x0 x1 x2 x3 x4 x5
  have hlt := blk_lt HI4.out
  go_wp2_with (go_at_call 10; refine (HSM.out _ A2 e2 HC4.out HC5.out HE2.out).mono ?_; rintro x w5 ⟨rfl, hb⟩; have HB5 := Aside0.mk ((below_alloc HB4.out _).trans (hb.mono (below_alloc HB4.out _).size)); clear hb)
  go_ret
  exact ⟨rfl, HB5.out⟩

/-- The law AnswersEvents, of any event. -/
theorem law_events (e : Ev) (A : Option Addr) (c : Nat) (w : World) (hE : Env w) (hr : EvR e) (hC : Kd.C (Kd.int .i64) w A e.list.length e.list) (hc : e.list.length ≤ c) :
    Calls Tryd.prog 3 #[.agg (evCells e A c)] w fun x w' => x = .returned (.bool true) ∧ Below w.heap.size w w' := by
  by_cases hl : 4194304 < e.list.length
  · exact le_big e.kind e.job e.tm e.nodes e.limit e.list A c w hl
  have hl2 : e.list.length ≤ 4194304 := by omega
  have hea := fun W hE hC => event_any e A c W hE hr hC hc (by omega)
  have hra := fun W hE hC => revent_any e A c W hE hr hC hc (by omega)
  by_cases ok : okP e
  · have hA : evA e = (evT e, 0) := if_pos ok
    rw [hA] at hea hra
    have hsz : (ofL (evT e)).size ≤ 2147483648 := by
      rw [ofL_size]
      exact evT_small e hr hl2
    refine le_ok e.kind e.job e.tm e.nodes e.limit e.list A c w (ofL (evT e)) hE hl2 hC hea hra (fun W hE => ?_) (fun W A2 e2 h1 h2 h3 => ?_)
    · have h := readEvent_any (ofL (evT e)) hsz W hE
      rw [data_ofL, rdC_evT hr ok] at h
      refine h.mono ?_
      rintro x w' ⟨A2, e2, rfl, h1, h2, h3⟩
      exact ⟨A2, e2, rfl, h1, h2, h3⟩
    · have h := lsame_any e e A A2 c e2 W h1 hc h2 h3 (by omega)
      rw [decide_eq_true rfl] at h
      exact h
  · have hA : evA e = ([], 90) := if_neg ok
    rw [hA] at hea hra
    refine le_bad e.kind e.job e.tm e.nodes e.limit e.list A c w hE hl2 hC hea hra (rdC []).1.kind (rdC []).1.job (rdC []).1.tm (rdC []).1.nodes (rdC []).1.limit (rdC []).1.list (rdC []).2 (fun W hE => ?_)
    have h := readEvent_any ⟨#[]⟩ (by decide) W hE
    refine h.mono ?_
    rintro x w' ⟨A2, e2, rfl, h1, h2, h3⟩
    exact ⟨A2, e2, rfl, h3⟩

end Go.Proofs.YtokioddaonknpaaDoor.A

namespace Go.Proofs.YtokioddaonknpaaDoor.AEvents
open Go.Proofs.YtokioddaonknpaaDoorW.PrintWords
open Go.ChangeShapes Go.WideShapes Go.ChangeAt Go.RowKit Go.Deep
open Go.ChangeMaps (open_string shut_string)
open Go.Proofs.YtokioddaonknpaaDoor.A (Env)

section
variable {H : Type} {enc : TypeId × Value → H} {P : Program} {w : World} {base : Nat} {spare : Nat → Bool} {held : Bool}
/-- A struct of six one-cell fields by value (after the guide's page on structs). -/
theorem open_agg6 {r : Reach} {b0 : Nat} {t : TypeId} {f0 f1 f2 f3 f4 f5 : Field} {v : Value} {d : DataW H} {p : List MemPlace} (hs : P.underlying t = some (.struct #[f0, f1, f2, f3, f4, f5])) (hone : oneCellFields P #[f0, f1, f2, f3, f4, f5] = true) (hC : P.cellsOf t = 6)
    (hv : Value.okWide P w r b0 t v) (h : DataW.Trod enc P w base spare held t v d p) :
    ∃ (v0 v1 v2 v3 v4 v5 : Value) (y0 y1 y2 y3 y4 y5 : DataW H × List MemPlace) (n : Nat), v = .agg #[v0, v1, v2, v3, v4, v5] ∧ d = .agg [y0.1, y1.1, y2.1, y3.1, y4.1, y5.1] ∧
      DataW.trod enc P w base spare held n f0.type [v0] = some y0 ∧ DataW.trod enc P w base spare held n f1.type [v1] = some y1 ∧ DataW.trod enc P w base spare held n f2.type [v2] = some y2 ∧ DataW.trod enc P w base spare held n f3.type [v3] = some y3 ∧ DataW.trod enc P w base spare held n f4.type [v4] = some y4 ∧ DataW.trod enc P w base spare held n f5.type [v5] = some y5 := by
  obtain ⟨cs, rfl, hsz⟩ := okWide_struct hs hv
  obtain ⟨l⟩ := cs
  match l, hsz.trans hC with
  | [c0, c1, c2, c3, c4, c5], _ =>
    obtain ⟨fuel, hf⟩ := h
    obtain ⟨xs, n, _, hx, _, hlen, hg⟩ := DataW.trod_struct hs hf
    obtain ⟨o0, k0⟩ := hone_of hone 0 f0 rfl
    obtain ⟨o1, k1⟩ := hone_of hone 1 f1 rfl
    obtain ⟨o2, k2⟩ := hone_of hone 2 f2 rfl
    obtain ⟨o3, k3⟩ := hone_of hone 3 f3 rfl
    obtain ⟨o4, k4⟩ := hone_of hone 4 f4 rfl
    obtain ⟨o5, k5⟩ := hone_of hone 5 f5 rfl
    match xs, hlen with
    | [y0, y1, y2, y3, y4, y5], _ =>
      simp only [Prod.mk.injEq] at hx
      exact ⟨c0, c1, c2, c3, c4, c5, y0, y1, y2, y3, y4, y5, n, rfl, by simpa using hx.1, by simpa [Value.cells, o0, k0] using hg 0 f0 rfl, by simpa [Value.cells, o1, k1] using hg 1 f1 rfl, by simpa [Value.cells, o2, k2] using hg 2 f2 rfl, by simpa [Value.cells, o3, k3] using hg 3 f3 rfl, by simpa [Value.cells, o4, k4] using hg 4 f4 rfl, by simpa [Value.cells, o5, k5] using hg 5 f5 rfl⟩
end

theorem own : ownKnob Tryd.prog.godebug = none := by kernel_rfl
theorem g3Type : (Tryd.prog.globals[3]?).map (·.type) = some 122 := by kernel_rfl
theorem g1Type : (Tryd.prog.globals[1]?).map (·.type) = some 67 := by kernel_rfl
theorem g2Type : (Tryd.prog.globals[2]?).map (·.type) = some 67 := by kernel_rfl
theorem cells122 : Tryd.prog.cellsOf 122 = 20 := by kernel_rfl
theorem cells38 : Tryd.prog.cellsOf 38 = 1 := by kernel_rfl
theorem cells134 : Tryd.prog.cellsOf 134 = 1 := by kernel_rfl
theorem cells9 : Tryd.prog.cellsOf 9 = 1 := by kernel_rfl
theorem plainLaid : laidMetH Tryd.prog Rows.answersEventsRow.laid = laidMet Tryd.prog Rows.answersEventsRow.laid := by
  funext w
  exact MakeChecks.laidMetH_plain _ _ _ (by kernel_rfl)

theorem star : "*" ++ "errors.errorString" = "*errors.errorString" := by decide
theorem row132 (u : TypeId) (h : Tryd.prog.typeName? 3 u = some "*errors.errorString") : u = 132 :=
  typeName_ptr_named (nm := "errors.errorString") (by rw [star]; kernel_rfl) (by kernel_rfl) (by decide) u (by rw [star]; exact h)

/-- What the row's list and the world's shape give. -/
theorem env {W : World} (hL : laidMet Tryd.prog Rows.answersEventsRow.laid W) (hsh : W.ShapedOpen Tryd.prog) (h8 : 8 ≤ W.heap.size) : Env W := by
  have ht := hL.tail.tail
  have hr := ht.tail.tail
  obtain ⟨a1, s1, hv1, -, -, -⟩ := laid_sentinel hr A.gRng g2Type Tryd.underlying67 row132 Tryd.underlying132 Tryd.underlying134 rfl rfl Tryd.underlying9 cells134 cells9
  obtain ⟨a0, s0, hv0, -, -, -⟩ := laid_sentinel hr.tail A.gSyn g1Type Tryd.underlying67 row132 Tryd.underlying132 Tryd.underlying134 rfl rfl Tryd.underlying9 cells134 cells9
  refine ⟨h8, Tryd.laysM146.s1_3 W hsh, ?_, ⟨_, _, hv0⟩, ⟨_, _, hv1⟩⟩
  exact Lib.tabIs_of_head (rest := _) A.gTab g3Type Tryd.underlying122 Tryd.underlying38 cells38 cells122 ht

theorem g7 : Tryd.prog.globalNamed "math/bits.deBruijn64tab" = some 7 := by kernel_rfl
theorem g7Type : (Tryd.prog.globals[7]?).map (·.type) = some 137 := by kernel_rfl
theorem cells137 : Tryd.prog.cellsOf 137 = 64 := by kernel_rfl
theorem cells5 : Tryd.prog.cellsOf 5 = 1 := by kernel_rfl
theorem size8 {W : World} (hL : laidMet Tryd.prog Rows.answersEventsRow.laid W) : 8 ≤ W.heap.size := by
  have ht : Lib.TabIs Tryd.prog W "math/bits.deBruijn64tab" .u8 [0, 1, 56, 2, 57, 49, 28, 3, 61, 58, 42, 50, 38, 29, 17, 4, 62, 47, 59, 36, 45, 43, 51, 22, 53, 39, 33, 30, 24, 18, 12, 5, 63, 55, 48, 27, 60, 41, 37, 16, 46, 35, 44, 21, 52, 32, 23, 11, 54, 26, 40, 15, 34, 20, 31, 10, 25, 14, 19, 9, 13, 8, 7, 6] :=
    Lib.tabIs_of_head (rest := _) g7 g7Type Tryd.underlying137 Tryd.underlying5 cells5 cells137 hL.tail
  have := World.block_lt_of_cell? W _ (ht.cell g7 0 (by decide))
  exact this

/-- THE WITNESS's WORLD: the settled one, with the listed variables laid. -/
noncomputable def w0 (os : Os) : World := World.laidAll Tryd.prog os Rows.answersEventsRow.laid
theorem witness (os : Os) {H : Type} (enc : TypeId × Value → H) :
    ∃ (w : World) (tape : Tape) (i : Input), w.os = os ∧ (w.forCall tape i).Shaped Tryd.prog ∧ i.vars = [] ∧ Input.okWide Tryd.prog (w.forCall tape i) .any w.heap.size 3 i ∧
      (OpenSpec.ofChange Rows.answersEventsSpec).preRow enc Tryd.prog Tryd.f3 Rows.answersEventsRow.domain false Rows.answersEventsRow.laid (w.forCall tape i).memory i.args ∧ ({ modest := false } : Assume).holds Tryd.prog (lone (Frame.enter Tryd.prog 3 i.args .normal) [] (w.forCall tape i)) := by
  have hok : Input.okWideB Tryd.prog ((w0 os).forCall (fun _ _ => 0) ⟨#[], #[.agg #[.int .i64 0, .int .i64 0, .int .i64 0, .int .i64 0, .int .i64 0, .slice none 0 0]], []⟩) 3 ⟨#[], #[.agg #[.int .i64 0, .int .i64 0, .int .i64 0, .int .i64 0, .int .i64 0, .slice none 0 0]], []⟩ = true := by kernel_rfl
  refine ⟨w0 os, fun _ _ => 0, ⟨#[], #[.agg #[.int .i64 0, .int .i64 0, .int .i64 0, .int .i64 0, .int .i64 0, .slice none 0 0]], []⟩, World.laidAll_os _ _ _, World.shaped_of_ZipB (by kernel_rfl) (by kernel_rfl), (Input.okWide_of_okWideB (base := 0) hok).1, (Input.okWide_of_okWideB hok).2, ?_, ?_⟩
  · obtain ⟨places, hx⟩ : ∃ places, DataW.whole enc Tryd.prog ((w0 os).forCall (fun _ _ => 0) ⟨#[], #[.agg #[.int .i64 0, .int .i64 0, .int .i64 0, .int .i64 0, .int .i64 0, .slice none 0 0]], []⟩).memory Tryd.f3.params.toList (OpenSpec.ofChange Rows.answersEventsSpec).vars false #[Value.agg #[.int .i64 0, .int .i64 0, .int .i64 0, .int .i64 0, .int .i64 0, .slice none 0 0]].toList 8 = some ([.agg [.lit (.int .i64 0), .lit (.int .i64 0), .lit (.int .i64 0), .lit (.int .i64 0), .lit (.int .i64 0), .nil]], [], places) := ⟨[], by kernel_rfl⟩
    exact OpenSpec.preRow_of_cond 8 hx (by kernel_rfl) (fun k hk => by cases hk) (by kernel_rfl) (by rw [plainLaid]; exact laidMet_laidAll _ (by kernel_rfl) (by kernel_rfl))
  · simp only [Assume.holds]
    exact ⟨by simp, by simp, fun _ => Modest.zero, by simp, by simp⟩

theorem laidOut : laidOutB Tryd.prog = true := by kernel_rfl
theorem rangeOf {a : Int} (h : (Lit.int .i64 a).wf = true) : -9223372036854775808 ≤ a ∧ a ≤ 9223372036854775807 := by
  simpa [Lit.wf, IntKind.min, IntKind.max, IntKind.signed, IntKind.bits] using h
set_option maxRecDepth 100000 in
theorem lifted (os : Os) (started : os.Started) (H : Type) (enc : TypeId × Value → H) (F : Stop.Interp) :
    ReturnsInHanded {} Tryd.checked os 3 .any ((OpenSpec.ofChange Rows.answersEventsSpec).preRow enc Tryd.prog Tryd.f3 Rows.answersEventsRow.domain false Rows.answersEventsRow.laid) (((OpenSpec.ofChange Rows.answersEventsSpec).at F).post enc Tryd.prog Tryd.f3 false true false false) := by
  refine returnsInHanded_of_row (C := Tryd.checked) (s := OpenSpec.ofChange Rows.answersEventsSpec) own started (by kernel_rfl) Tryd.func3 (witness os enc) ?_
  intro W base args ds gs before hval hW _ _ hsz hL hsh _
  have hsz' : (DataW.weightsEach Tryd.prog (Tryd.f3.params.toList ++ (OpenSpec.ofChange Rows.answersEventsSpec).bare.plain.varTypes Tryd.prog) (ds ++ gs)).all (· ≤ reachBytes) = true := hsz
  have hval' : ∀ (j : Nat) t v, Tryd.f3.params[j]? = some t → args[j]? = some v → Value.okWide Tryd.prog W .any base t v := hval
  have hW' := hW
  obtain ⟨p, q, hA0, hV, rfl, _, _⟩ := hW
  have hA : DataW.TrodAll enc Tryd.prog W 0 (fun _ => true) true Tryd.f3.params.toList args.toList ds p := hA0
  rw [Tryd.params3] at hA hval' hsz'
  obtain ⟨v0, d0, rfl, rfl, h0⟩ := trodAll_one hA
  obtain ⟨rfl, rfl⟩ := trodVars_none hV
  have h0k := h0
  obtain ⟨v0, v1, v2, v3, v4, v5, y0, y1, y2, y3, y4, y5, n, rfl, hd, t0, t1, t2, t3, t4, t5⟩ := open_agg6 Tryd.underlying24 (by kernel_rfl) (by kernel_rfl) (hval' 0 24 v0 rfl rfl) h0
  obtain ⟨a0, e0, r0, w0⟩ := DataW.trod_int Tryd.underlying3 t0
  obtain ⟨a1, e1, r1, w1⟩ := DataW.trod_int Tryd.underlying3 t1
  obtain ⟨a2, e2, r2, w2⟩ := DataW.trod_int Tryd.underlying3 t2
  obtain ⟨a3, e3, r3, w3⟩ := DataW.trod_int Tryd.underlying3 t3
  obtain ⟨a4, e4, r4, w4⟩ := DataW.trod_int Tryd.underlying3 t4
  simp only [List.cons.injEq, and_true] at e0 e1 e2 e3 e4
  subst e0; subst e1; subst e2; subst e3; subst e4
  have hL' : laidMetH Tryd.prog Rows.answersEventsRow.laid W := hL
  rw [plainLaid] at hL'
  have hE := env hL' hsh (size8 hL')
  simp only [List.append_nil] at hW' h0k
  have hlt : ∀ x ∈ p, x.block < W.heap.size := fun x hx => by simpa using hW'.lt x hx
  have fin : ∀ (l : List Int) (A : Option Addr) (c : Nat), v5 = .slice A l.length c → (∀ n ∈ l, Go.Proofs.YtokioddaonknpaaDoor.A.Rng n) → Kd.C (Kd.int .i64) W A l.length l → l.length ≤ c →
      Calls Tryd.prog 3 #[.agg #[.int .i64 a0, .int .i64 a1, .int .i64 a2, .int .i64 a3, .int .i64 a4, v5]] W fun e W' => ∃ v, e = .returned v ∧ ((OpenSpec.ofChange Rows.answersEventsSpec).at F).post enc Tryd.prog Tryd.f3 false true false false W #[.agg #[.int .i64 a0, .int .i64 a1, .int .i64 a2, .int .i64 a3, .int .i64 a4, v5]] v W' := by
    intro l A c hv hw hC hc
    subst hv
    refine (Go.Proofs.YtokioddaonknpaaDoor.A.law_events ⟨a0, a1, a2, a3, a4, l⟩ A c W hE ⟨rangeOf w1, rangeOf w2, rangeOf w3, rangeOf w4, hw⟩ hC hc).mono fun e W' ⟨he, hb⟩ => ?_
    subst he
    exact ⟨_, rfl, _, _, _, _, _, [], hW', trodAll_mk1 (shut_bool Tryd.underlying4 _), trodAll_mk1 (Below.trod laidOut (by kernel_rfl) (of_decide_eq_true (by kernel_rfl)) h0k hb hlt), rfl, hb.frame _, fun h => by cases h⟩
  rcases open_ints Tryd.underlying22 Tryd.underlying3 (by kernel_rfl) t5 with ⟨hv, _⟩ | ⟨a, len, cap, zs, hv, _, hlc, hmax, hzl, _, hcell, hwz⟩
  · simp only [List.cons.injEq, and_true] at hv
    exact fin [] none 0 hv (fun n hn => by cases hn) (Kd.C_nil _ _) (Nat.le_refl _)
  · simp only [List.cons.injEq, and_true] at hv
    have hzl2 : len ≤ zs.length := by rw [hzl]; split <;> omega
    have hln : (zs.take len).length = len := by rw [List.length_take]; omega
    refine fin (zs.take len) (some a) cap (by rw [hln]; exact hv) (fun n hn => rangeOf (hwz n (List.mem_of_mem_take hn))) ?_ (by rw [hln]; exact hlc)
    refine Kd.C_of_reads (d := (0 : Int)) ⟨rfl, by rw [hln]; simp only [maxLen] at hmax; omega, fun _ => ⟨a, rfl, fun j hj => ?_⟩⟩
    rw [hln] at hj
    rw [hcell j (by omega)]
    simp [List.getD_eq_getElem?_getD, hj]

theorem said : Rows.AnswersEventsSaid :=
  OpenClaim.holds_of_cond 3 Tryd.f3 rfl rfl rfl rfl rfl rfl rfl ⟨rfl, rfl, rfl, rfl, rfl⟩ rfl rfl rfl rfl rfl (by kernel_rfl) Tryd.func3 (by kernel_rfl)
    (of_decide_eq_true (by kernel_rfl)) (by unfold Func.isWrapper; first | (rw [if_pos (by decide +kernel)]; kernel_rfl) | (rw [if_neg (by decide +kernel)]; exact ⟨rfl, rfl⟩))
    (fun os started H enc _ F => by rw [OpenClaim.pre_eq_preRow]; exact lifted os started H enc F)

theorem plain (f : FuncId) (fn : Func) (hf : Tryd.pinned.checked.prog.funcNamed "backfill/backfilllaw09.AnswersEvents" = some f) (hfn : Tryd.pinned.checked.prog.funcs[f]? = some fn) :
    true = Tryd.pinned.checked.prog.looks [] ∧ ∀ (j : Nat) t, fn.params[j]? = some t → Tryd.pinned.checked.prog.wantsStandIn t = false := by
  obtain rfl : f = 3 := Option.some.inj ((show Tryd.prog.funcNamed "backfill/backfilllaw09.AnswersEvents" = some 3 by kernel_rfl).symm.trans hf) |>.symm
  obtain rfl : fn = Tryd.f3 := (Option.some.inj (Tryd.func3.symm.trans hfn)).symm
  refine ⟨by kernel_rfl, fun j t ht => ?_⟩
  rw [Tryd.params3] at ht
  obtain rfl : t = 24 := by simpa using Array.mem_of_getElem? ht
  exact (show Tryd.prog.wantsStandIn 24 = false by kernel_rfl)

theorem card : Rows.AnswersEventsCardSaid :=
  Claim7.holds_tied_plain_at .later [] _ _ _ _ said (fun _ h => by cases h) (by kernel_rfl) (fun _ h => by cases h) answersEvents_row_tie rfl ⟨rfl, rfl⟩ (by kernel_rfl) rfl plain (by kernel_rfl)
#print axioms card

end Go.Proofs.YtokioddaonknpaaDoor.AEvents
