/- Of any line answers.ReadEvent answers what the reference answers, and what is read is written so: the card of the second form of AnswersReads, with no condition beyond its row's own (the listed variables hold what the program's text lays; the bulk of the arguments). -/
import Derived.Test.YtokioddaonknpaaDoorCards
import Derived.Test.YtokioddaonknpaaDoorTie
import Derived.ProofKit
import Derived.Deep.DeepHandedRow
import Derived.Lib.LaidTab
import Derived.Lay
import Derived.Stop.LaidErr
import Derived.SizedLaws
import Derived.Test.YtokioddaonknpaaDoorR17
import Derived.Test.YtokioddaonknpaaDoorGB

namespace Go.Proofs.YtokioddaonknpaaDoor.A
open Go.RowKit Go.Proofs.YtokioddaonknpaaDoorW.PrintWords Go.Proofs.YtokioddaonknpaaDoor.PAnswersReads
set_option linter.unusedSimpArgs false
set_option linter.unusedVariables false

theorem lsame_any (a b : Ev) (A1 A : Option Addr) (c1 c : Nat) (W : World) (h1 : Kd.C (Kd.int .i64) W A1 a.list.length a.list) (hc1 : a.list.length ≤ c1) (h2 : Kd.C (Kd.int .i64) W A b.list.length b.list) (hc : b.list.length ≤ c) (hl : a.list.length ≤ 4294967296) :
    Calls Tryd.prog 10 #[.agg (evCells a A1 c1), .agg (evCells b A c)] W fun e w' => e = .returned (.bool (decide (a = b))) ∧ Below W.heap.size W w' :=
  backfilllaw09_same.calls (a.list.length + 2) a.kind a.job a.tm a.nodes a.limit A1 c1 a.list b.kind b.job b.tm b.nodes b.limit A c b.list _ W h1 hc1 h2 hc (lsame_f a b (by omega) _ (by omega))


def RdL (k jb tm nd lm code : Int) (l : List Int) (W : World) (x : Ending) (w' : World) : Prop := ∃ A c, x = .returned (.tuple #[.agg #[.int .i64 k, .int .i64 jb, .int .i64 tm, .int .i64 nd, .int .i64 lm, .slice A l.length c], .int .i64 code]) ∧ l.length ≤ c ∧ Kd.C (Kd.int .i64) w' A l.length l ∧ Below W.heap.size W w'
set_option maxHeartbeats 8000000 in
set_option maxRecDepth 100000 in
theorem lr_walk (s : ByteArray) (w : World) (hE : Env w) (k jb tm nd lm : Int) (l : List Int) (code : Int) (hl : l.length ≤ 4294967296)
    (hre : ∀ W, Env W → Calls Tryd.prog 9 #[.string s] W (RdL k jb tm nd lm code l W))
    (hrr : ∀ W, Env W → Calls Tryd.prog 11 #[.string s] W (RdL k jb tm nd lm code l W))
    (hsm : ∀ W A1 c1 A2 c2, Kd.C (Kd.int .i64) W A1 l.length l → l.length ≤ c1 → Kd.C (Kd.int .i64) W A2 l.length l → l.length ≤ c2 → Calls Tryd.prog 10 #[.agg #[.int .i64 k, .int .i64 jb, .int .i64 tm, .int .i64 nd, .int .i64 lm, .slice A1 l.length c1], .agg #[.int .i64 k, .int .i64 jb, .int .i64 tm, .int .i64 nd, .int .i64 lm, .slice A2 l.length c2]] W fun x w' => x = .returned (.bool true) ∧ Below W.heap.size W w')
    (t : ByteArray) (g : Int)
    (hea : ∀ W A c, Env W → Kd.C (Kd.int .i64) W A l.length l → l.length ≤ c → Calls Tryd.prog 7 #[.agg #[.int .i64 k, .int .i64 jb, .int .i64 tm, .int .i64 nd, .int .i64 lm, .slice A l.length c]] W fun x w' => x = .returned (.tuple #[.string t, .int .i64 g]) ∧ Below W.heap.size W w')
    (hfin : (code = 0 ∧ g = 0 ∧ t = s) ∨ code = 90) :
    Calls Tryd.prog 4 #[.string s] w fun x w' => x = .returned (.bool true) ∧ Below w.heap.size w w' := by
  have HE := Km hE
  have HRE := Lib.hid hre
  have HRR := Lib.hid hrr
  have HSM := Lib.hid hsm
  have HEA := Lib.hid hea
  have HSH := Lib.hid (fun W hE => shown_any W hE)
  have HF := Km hfin
  clear hl hre hrr hsm hea hE hfin
  go_enter Tryd.func4, Tryd.ntmps4
  go_wp2_with (go_at_call 6; refine (HSH.out _ HE.out).mono ?_; rintro x w1 ⟨rfl, hb⟩; refine Hid.out ?_)
  refine Lib.hid ?_
  have HB1 := Km hb
  clear hb
  go_wp2_with (go_at_call 9; refine (HRE.out _ (HE.out.step HB1.out)).mono ?_; rintro x w2 ⟨A, c, rfl, hc, hC, hb⟩; refine Hid.out ?_)
  refine Lib.hid ?_
  have HX2 := Km (alloc_ev (w := w2) rfl ⟨k, jb, tm, nd, lm, l⟩ A c)
  have HC2 := Km (Kd.C_alloc hC (.cells (evCells ⟨k, jb, tm, nd, lm, l⟩ A c) 24))
  have HB2 := Km (below_alloc (HB1.out.trans (hb.mono HB1.out.size)) (.cells (evCells ⟨k, jb, tm, nd, lm, l⟩ A c) 24))
  have HL2 := Km hc
  clear hb hC hc
  go_wp2_with (go_at_call 11; refine (HRR.out _ (HE.out.step HB2.out)).mono ?_; rintro x w3 ⟨A3, c3, rfl, hc, hC, hb⟩; refine Hid.out ?_)
  refine Lib.hid ?_
  have HX3 := Km (ev_below HX2.out hb)
  have HC3 := Km (Kd.C_alloc (Kd.C_below HC2.out hb) (.cells (evCells ⟨k, jb, tm, nd, lm, l⟩ A3 c3) 24))
  have HD3 := Km (Kd.C_alloc hC (.cells (evCells ⟨k, jb, tm, nd, lm, l⟩ A3 c3) 24))
  have HB3 := Km (below_alloc (HB2.out.trans (hb.mono HB2.out.size)) (.cells (evCells ⟨k, jb, tm, nd, lm, l⟩ A3 c3) 24))
  have HL3 := Km hc
  have HX4 := Km (ev_below HX3.out ((Below.refl _ _).alloc (Nat.le_refl _) (.cells (evCells ⟨k, jb, tm, nd, lm, l⟩ A3 c3) 24)))
  clear hb hC hc
  obtain ⟨x0, x1, x2, x3, x4, x5, xf⟩ := ev_cells HX3.out
  dsimp only at x0 x1 x2 x3 x4 x5
  have hlt := blk_lt HX3.out
  have hcc : (code == code) = true := beq_self_eq_true _
  go_wp2_with (go_at_call 10; refine (HSM.out _ A c A3 c3 HC3.out HL2.out HD3.out HL3.out).mono ?_; rintro x w4 ⟨rfl, hb⟩; refine Hid.out ?_)
  refine Lib.hid ?_
  clear x0 x1 x2 x3 x4 x5 xf hlt
  have HX5 := Km (ev_below HX4.out hb)
  have HC5 := Km (Kd.C_below HC3.out hb)
  have HB5 := Km (HB3.out.trans (hb.mono HB3.out.size))
  clear hb
  obtain ⟨x0, x1, x2, x3, x4, x5, xf⟩ := ev_cells HX5.out
  dsimp only at x0 x1 x2 x3 x4 x5
  go_wp2_with (go_at_call 7; refine (HEA.out _ A c (HE.out.step HB5.out) HC5.out HL2.out).mono ?_; rintro x w5 ⟨rfl, hb⟩; refine Hid.out ?_)
  refine Lib.hid ?_
  have HB6 := Km (HB5.out.trans (hb.mono HB5.out.size))
  clear hb
  rcases HF.out with ⟨rfl, rfl, rfl⟩ | rfl
  · go_wp2
    go_ret
    exact ⟨rfl, HB6.out⟩
  · go_wp2
    go_ret
    exact ⟨rfl, HB6.out⟩

theorem rdC_len (s : List UInt8) : (rdC s).1.list.length ≤ s.length + 1 := by
  unfold rdC
  split
  · exact Nat.zero_le _
  · rename_i n hn
    have h1 := (canons_rng _ _ hn).2
    have h2 : n.length = (headsW (splA [] s)).tail.length := by rw [← h1, List.length_map]
    have h3 : (headsW (splA [] s)).length ≤ (splA [] s).length := by
      unfold headsW
      split
      · rw [List.length_take]; omega
      · exact Nat.le_refl _
    have h4 := splA_num s []
    have h5 := evOf_list (headsW (splA [] s)) n (endedW (splA [] s))
    rw [List.length_tail] at h2
    split
    · dsimp only
      omega
    · exact Nat.zero_le _

theorem law_reads (s : ByteArray) (hs : s.size ≤ 2147483648) (w : World) (hE : Env w) (hlen : (rdC s.data.toList).1.list.length ≤ 4294967296) :
    Calls Tryd.prog 4 #[.string s] w fun x w' => x = .returned (.bool true) ∧ Below w.heap.size w w' := by
  have hre := fun W hE => readEvent_any s hs W hE
  have hrr := fun W hE => rreadEvent_any s hs W hE
  have hR := rdC_reads s.data.toList
  rw [← rdC_rdR] at hrr
  generalize rdC s.data.toList = r at hre hrr hR hlen
  obtain ⟨e, code⟩ := r
  dsimp only at hlen
  have conv : ∀ f, (∀ W, Env W → Calls Tryd.prog f #[.string s] W (RdOf (e, code) W)) → ∀ W, Env W → Calls Tryd.prog f #[.string s] W (RdL e.kind e.job e.tm e.nodes e.limit code e.list W) := fun f h W hE => h W hE
  refine lr_walk s w hE e.kind e.job e.tm e.nodes e.limit e.list code hlen (conv 9 hre) (conv 11 hrr) (fun W A1 c1 A2 c2 h1 h2 h3 h4 => ?_) (ofL (evA e).1) (evA e).2 (fun W A c hE hC hc => ?_) ?_
  · have h := lsame_any e e A1 A2 c1 c2 W h1 h2 h3 h4 hlen
    rw [decide_eq_true rfl] at h
    exact h
  · have hr : EvR e := by
      rcases hR with ⟨_, _, _, h⟩ | ⟨h, _⟩
      · exact h
      · injection h with h _
        rw [h]
        exact ⟨rng0, rng0, rng0, rng0, fun _ h => by cases h⟩
    exact event_any e A c W hE hr hC hc hlen
  · rcases hR with ⟨h1, h2, h3, _⟩ | ⟨h, _⟩
    · refine .inl ⟨h1, ?_, ?_⟩
      · rw [show evA e = (evT e, 0) from if_pos h2]
      · rw [show evA e = (evT e, 0) from if_pos h2, h3]
        exact ofL_data s
    · injection h with _ h
      exact .inr h

end Go.Proofs.YtokioddaonknpaaDoor.A

namespace Go.Proofs.YtokioddaonknpaaDoor.AReads
open Go.ChangeShapes Go.WideShapes Go.ChangeAt Go.RowKit
open Go.ChangeMaps (open_string shut_string)
open Go.Proofs.YtokioddaonknpaaDoor.A (Env)

theorem own : ownKnob Tryd.prog.godebug = none := by kernel_rfl
theorem g3Type : (Tryd.prog.globals[3]?).map (·.type) = some 122 := by kernel_rfl
theorem g1Type : (Tryd.prog.globals[1]?).map (·.type) = some 67 := by kernel_rfl
theorem g2Type : (Tryd.prog.globals[2]?).map (·.type) = some 67 := by kernel_rfl
theorem cells122 : Tryd.prog.cellsOf 122 = 20 := by kernel_rfl
theorem cells38 : Tryd.prog.cellsOf 38 = 1 := by kernel_rfl
theorem cells134 : Tryd.prog.cellsOf 134 = 1 := by kernel_rfl
theorem cells9 : Tryd.prog.cellsOf 9 = 1 := by kernel_rfl
theorem plainLaid : laidMetH Tryd.prog Rows.answersReadsUptoRow.laid = laidMet Tryd.prog Rows.answersReadsUptoRow.laid := by
  funext w
  exact MakeChecks.laidMetH_plain _ _ _ (by kernel_rfl)

theorem star : "*" ++ "errors.errorString" = "*errors.errorString" := by decide
theorem row132 (u : TypeId) (h : Tryd.prog.typeName? 3 u = some "*errors.errorString") : u = 132 :=
  typeName_ptr_named (nm := "errors.errorString") (by rw [star]; kernel_rfl) (by kernel_rfl) (by decide) u (by rw [star]; exact h)

theorem env {W : World} (hL : laidMet Tryd.prog Rows.answersReadsUptoRow.laid W) (hsh : W.ShapedOpen Tryd.prog) (h8 : 8 ≤ W.heap.size) : Env W := by
  have ht := hL.tail.tail
  have hr := ht.tail.tail
  obtain ⟨a1, s1, hv1, -, -, -⟩ := laid_sentinel hr A.gRng g2Type Tryd.underlying67 row132 Tryd.underlying132 Tryd.underlying134 rfl rfl Tryd.underlying9 cells134 cells9
  obtain ⟨a0, s0, hv0, -, -, -⟩ := laid_sentinel hr.tail A.gSyn g1Type Tryd.underlying67 row132 Tryd.underlying132 Tryd.underlying134 rfl rfl Tryd.underlying9 cells134 cells9
  refine ⟨h8, Tryd.laysM146.s1_3 W hsh, ?_, ⟨_, _, hv0⟩, ⟨_, _, hv1⟩⟩
  exact Lib.tabIs_of_head (rest := _) A.gTab g3Type Tryd.underlying122 Tryd.underlying38 cells38 cells122 ht

theorem g7 : Tryd.prog.globalNamed "math/bits.deBruijn64tab" = some 7 := by kernel_rfl
theorem g7Type : (Tryd.prog.globals[7]?).map (·.type) = some 137 := by kernel_rfl
theorem cells137 : Tryd.prog.cellsOf 137 = 64 := by kernel_rfl
theorem cells5 : Tryd.prog.cellsOf 5 = 1 := by kernel_rfl
theorem size8 {W : World} (hL : laidMet Tryd.prog Rows.answersReadsUptoRow.laid W) : 8 ≤ W.heap.size := by
  have ht : Lib.TabIs Tryd.prog W "math/bits.deBruijn64tab" .u8 [0, 1, 56, 2, 57, 49, 28, 3, 61, 58, 42, 50, 38, 29, 17, 4, 62, 47, 59, 36, 45, 43, 51, 22, 53, 39, 33, 30, 24, 18, 12, 5, 63, 55, 48, 27, 60, 41, 37, 16, 46, 35, 44, 21, 52, 32, 23, 11, 54, 26, 40, 15, 34, 20, 31, 10, 25, 14, 19, 9, 13, 8, 7, 6] :=
    Lib.tabIs_of_head (rest := _) g7 g7Type Tryd.underlying137 Tryd.underlying5 cells5 cells137 hL.tail
  have := World.block_lt_of_cell? W _ (ht.cell g7 0 (by decide))
  exact this

noncomputable def w0 (os : Os) : World := World.laidAll Tryd.prog os Rows.answersReadsUptoRow.laid
theorem witness (os : Os) {H : Type} (enc : TypeId × Value → H) :
    ∃ (w : World) (tape : Tape) (i : Input), w.os = os ∧ (w.forCall tape i).Shaped Tryd.prog ∧ i.vars = [] ∧ Input.okWide Tryd.prog (w.forCall tape i) .any w.heap.size 4 i ∧
      (Rows.OpenSpec.upto Rows.answersReadsSpec).preRow enc Tryd.prog Tryd.f4 Rows.answersReadsUptoRow.domain false Rows.answersReadsUptoRow.laid (w.forCall tape i).memory i.args ∧ ({ modest := false } : Assume).holds Tryd.prog (lone (Frame.enter Tryd.prog 4 i.args .normal) [] (w.forCall tape i)) := by
  have hok : Input.okWideB Tryd.prog ((w0 os).forCall (fun _ _ => 0) ⟨#[], #[.string ⟨#[]⟩], []⟩) 4 ⟨#[], #[.string ⟨#[]⟩], []⟩ = true := by kernel_rfl
  refine ⟨w0 os, fun _ _ => 0, ⟨#[], #[.string ⟨#[]⟩], []⟩, World.laidAll_os _ _ _, World.shaped_of_ZipB (by kernel_rfl) (by kernel_rfl), (Input.okWide_of_okWideB (base := 0) hok).1, (Input.okWide_of_okWideB hok).2, ?_, ?_⟩
  · obtain ⟨places, hx⟩ : ∃ places, DataW.whole enc Tryd.prog ((w0 os).forCall (fun _ _ => 0) ⟨#[], #[.string ⟨#[]⟩], []⟩).memory Tryd.f4.params.toList (Rows.OpenSpec.upto Rows.answersReadsSpec).vars false #[Value.string ⟨#[]⟩].toList 8 = some ([.lit (.string [])], [], places) := ⟨[], by kernel_rfl⟩
    exact OpenSpec.preRow_of_cond 8 hx (by kernel_rfl) (fun k hk => by cases hk; kernel_rfl) (by kernel_rfl) (by rw [plainLaid]; exact laidMet_laidAll _ (by kernel_rfl) (by kernel_rfl))
  · simp only [Assume.holds]
    exact ⟨by simp, by simp, fun _ => Modest.zero, by simp, by simp⟩

set_option maxRecDepth 100000 in
theorem lifted (os : Os) (started : os.Started) (H : Type) (enc : TypeId × Value → H) (F : Stop.Interp) :
    ReturnsInHanded {} Tryd.checked os 4 .any ((Rows.OpenSpec.upto Rows.answersReadsSpec).preRow enc Tryd.prog Tryd.f4 Rows.answersReadsUptoRow.domain false Rows.answersReadsUptoRow.laid) (((Rows.OpenSpec.upto Rows.answersReadsSpec).at F).post enc Tryd.prog Tryd.f4 false true false false) := by
  refine returnsInHanded_of_row (C := Tryd.checked) (s := Rows.OpenSpec.upto Rows.answersReadsSpec) own started (by kernel_rfl) Tryd.func4 (witness os enc) ?_
  intro W base args ds gs before hval hW _ hcond _ hL hsh _
  have hval' : ∀ (j : Nat) t v, Tryd.f4.params[j]? = some t → args[j]? = some v → Value.okWide Tryd.prog W .any base t v := hval
  have hW' := hW
  obtain ⟨p, q, hA0, hV, rfl, _, _⟩ := hW
  have hA : DataW.TrodAll enc Tryd.prog W 0 (fun _ => true) true Tryd.f4.params.toList args.toList ds p := hA0
  rw [Tryd.params4] at hA hval'
  obtain ⟨v0, d0, rfl, rfl, h0⟩ := trodAll_one hA
  obtain ⟨rfl, rfl⟩ := trodVars_none hV
  obtain ⟨s, rfl, rfl, rfl, hs⟩ := open_string Tryd.underlying9 (hval' 0 9 v0 rfl rfl) h0
  have hlim : s.size ≤ 1048576 := by
    have h := of_decide_eq_true (hcond _ rfl)
    simp only [List.append_nil, Rows.uptoBulkAll, Rows.uptoBulk] at h
    rw [← Go.Proofs.YtokioddaonknpaaDoor.A.data_length]
    omega
  have hL' : laidMetH Tryd.prog Rows.answersReadsUptoRow.laid W := hL
  rw [plainLaid] at hL'
  refine (Go.Proofs.YtokioddaonknpaaDoor.A.law_reads s (by omega) W (env hL' hsh (size8 hL')) (by have := Go.Proofs.YtokioddaonknpaaDoor.A.rdC_len s.data.toList; rw [Go.Proofs.YtokioddaonknpaaDoor.A.data_length] at this; omega)).mono fun e W' ⟨he, hb⟩ => ?_
  subst he
  simp only [List.append_nil] at hW'
  exact ⟨_, rfl, _, _, _, [], [], [], hW', trodAll_mk1 (shut_bool Tryd.underlying4 _), trodAll_mk1 (shut_string Tryd.underlying9 hs), rfl, hb.frame _, fun h => by cases h⟩

theorem said : Rows.AnswersReadsUptoSaid :=
  OpenClaim.holds_of_cond 4 Tryd.f4 rfl rfl rfl rfl rfl rfl rfl ⟨rfl, rfl, rfl, rfl, rfl⟩ rfl rfl rfl rfl rfl (by kernel_rfl) Tryd.func4 (by kernel_rfl)
    (of_decide_eq_true (by kernel_rfl)) (by unfold Func.isWrapper; first | (rw [if_pos (by decide +kernel)]; kernel_rfl) | (rw [if_neg (by decide +kernel)]; exact ⟨rfl, rfl⟩))
    (fun os started H enc _ F => by rw [OpenClaim.pre_eq_preRow]; exact lifted os started H enc F)

theorem plain (f : FuncId) (fn : Func) (hf : Tryd.pinned.checked.prog.funcNamed "backfill/backfilllaw09.AnswersReads" = some f) (hfn : Tryd.pinned.checked.prog.funcs[f]? = some fn) :
    true = Tryd.pinned.checked.prog.looks [] ∧ ∀ (j : Nat) t, fn.params[j]? = some t → Tryd.pinned.checked.prog.wantsStandIn t = false := by
  obtain rfl : f = 4 := Option.some.inj ((show Tryd.prog.funcNamed "backfill/backfilllaw09.AnswersReads" = some 4 by kernel_rfl).symm.trans hf) |>.symm
  obtain rfl : fn = Tryd.f4 := (Option.some.inj (Tryd.func4.symm.trans hfn)).symm
  refine ⟨by kernel_rfl, fun j t ht => ?_⟩
  rw [Tryd.params4] at ht
  obtain rfl : t = 9 := by simpa using Array.mem_of_getElem? ht
  exact (show Tryd.prog.wantsStandIn 9 = false by kernel_rfl)

theorem card : Rows.AnswersReadsUptoCardSaid :=
  Claim7.holds_tied_plain_at .later [] _ _ _ _ said (fun _ h => by cases h) (by kernel_rfl) (fun _ h => by cases h) answersReadsUpto_row_tie rfl ⟨rfl, rfl⟩ (by kernel_rfl) rfl plain (by kernel_rfl)
#print axioms card

end Go.Proofs.YtokioddaonknpaaDoor.AReads
