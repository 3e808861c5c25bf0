/-
  Of any text verbs.Parse and verbs.Valid answer what the reference answers: the card of VerbsReads, with no condition beyond its row's own (the listed variables hold what the program's text lays; the form's reach).
-/
import Derived.Test.YtamimpomeigllaaDoorCards
import Derived.Test.YtamimpomeigllaaDoorTie
import Derived.Test.YtamimpomeigllaaDoorE2
import Derived.ProofKit
import Derived.Deep.DeepHandedRow
import Derived.Lib.LaidTab
import Derived.Lay
import Derived.Stop.LaidErr
import Derived.SizedLaws
namespace Go.Proofs.YtamimpomeigllaaDoor.VReads
open Go.ChangeShapes Go.WideShapes Go.ChangeAt Go.RowKit
open Go.ChangeMaps (open_string shut_string)
open Go.Proofs.YtamimpomeigllaaDoor.V (Env)

theorem own : ownKnob Tryd.prog.godebug = none := by kernel_rfl
theorem g3Type : (Tryd.prog.globals[3]?).map (·.type) = some 98 := by kernel_rfl
theorem g1Type : (Tryd.prog.globals[1]?).map (·.type) = some 58 := by kernel_rfl
theorem g2Type : (Tryd.prog.globals[2]?).map (·.type) = some 58 := by kernel_rfl
theorem cells98 : Tryd.prog.cellsOf 98 = 20 := by kernel_rfl
theorem cells83 : Tryd.prog.cellsOf 83 = 1 := by kernel_rfl
theorem cells115 : Tryd.prog.cellsOf 115 = 1 := by kernel_rfl
theorem cells9 : Tryd.prog.cellsOf 9 = 1 := by kernel_rfl
theorem plainLaid : laidMetH Tryd.prog Rows.verbsReadsRow.laid = laidMet Tryd.prog Rows.verbsReadsRow.laid := by
  funext w
  exact MakeChecks.laidMetH_plain _ _ _ (by kernel_rfl)

theorem star : "*" ++ "errors.errorString" = "*errors.errorString" := by decide
theorem row113 (u : TypeId) (h : Tryd.prog.typeName? 3 u = some "*errors.errorString") : u = 113 :=
  typeName_ptr_named (nm := "errors.errorString") (by rw [star]; kernel_rfl) (by kernel_rfl) (by decide) u (by rw [star]; exact h)

/-- What the row's list and the world's shape give. -/
theorem env {W : World} (hL : laidMet Tryd.prog Rows.verbsReadsRow.laid W) (hsh : W.ShapedOpen Tryd.prog) (h8 : 8 ≤ W.heap.size) : Env W := by
  have ht := hL.tail.tail
  have hr := ht.tail.tail
  obtain ⟨a1, s1, hv1, -, -, -⟩ := laid_sentinel hr V.gRng g2Type Tryd.underlying58 row113 Tryd.underlying113 Tryd.underlying115 rfl rfl Tryd.underlying9 cells115 cells9
  obtain ⟨a0, s0, hv0, -, -, -⟩ := laid_sentinel hr.tail V.gSyn g1Type Tryd.underlying58 row113 Tryd.underlying113 Tryd.underlying115 rfl rfl Tryd.underlying9 cells115 cells9
  refine ⟨h8, Tryd.laysM146.s1_3 W hsh, ?_, ⟨_, _, hv0⟩, ⟨_, _, hv1⟩⟩
  exact Lib.tabIs_of_head (rest := _) V.gTab g3Type Tryd.underlying98 Tryd.underlying83 cells83 cells98 ht

theorem g7 : Tryd.prog.globalNamed "math/bits.deBruijn64tab" = some 7 := by kernel_rfl
theorem g7Type : (Tryd.prog.globals[7]?).map (·.type) = some 118 := by kernel_rfl
theorem cells118 : Tryd.prog.cellsOf 118 = 64 := by kernel_rfl
theorem cells5 : Tryd.prog.cellsOf 5 = 1 := by kernel_rfl
theorem size8 {W : World} (hL : laidMet Tryd.prog Rows.verbsReadsRow.laid W) : 8 ≤ W.heap.size := by
  have ht : Lib.TabIs Tryd.prog W "math/bits.deBruijn64tab" .u8 [0, 1, 56, 2, 57, 49, 28, 3, 61, 58, 42, 50, 38, 29, 17, 4, 62, 47, 59, 36, 45, 43, 51, 22, 53, 39, 33, 30, 24, 18, 12, 5, 63, 55, 48, 27, 60, 41, 37, 16, 46, 35, 44, 21, 52, 32, 23, 11, 54, 26, 40, 15, 34, 20, 31, 10, 25, 14, 19, 9, 13, 8, 7, 6] :=
    Lib.tabIs_of_head (rest := _) g7 g7Type Tryd.underlying118 Tryd.underlying5 cells5 cells118 hL.tail
  have := World.block_lt_of_cell? W _ (ht.cell g7 0 (by decide))
  exact this

/-- THE WITNESS's WORLD: the settled one, with the listed variables laid. -/
noncomputable def w0 (os : Os) : World := World.laidAll Tryd.prog os Rows.verbsReadsRow.laid
theorem witness (os : Os) {H : Type} (enc : TypeId × Value → H) :
    ∃ (w : World) (tape : Tape) (i : Input), w.os = os ∧ (w.forCall tape i).Shaped Tryd.prog ∧ i.vars = [] ∧ Input.okWide Tryd.prog (w.forCall tape i) .any w.heap.size 3 i ∧
      (OpenSpec.ofChange Rows.verbsReadsSpec).preRow enc Tryd.prog Tryd.f3 Rows.verbsReadsRow.domain false Rows.verbsReadsRow.laid (w.forCall tape i).memory i.args ∧ ({ modest := false } : Assume).holds Tryd.prog (lone (Frame.enter Tryd.prog 3 i.args .normal) [] (w.forCall tape i)) := by
  have hok : Input.okWideB Tryd.prog ((w0 os).forCall (fun _ _ => 0) ⟨#[], #[.string ⟨#[]⟩], []⟩) 3 ⟨#[], #[.string ⟨#[]⟩], []⟩ = true := by kernel_rfl
  refine ⟨w0 os, fun _ _ => 0, ⟨#[], #[.string ⟨#[]⟩], []⟩, World.laidAll_os _ _ _, World.shaped_of_ZipB (by kernel_rfl) (by kernel_rfl), (Input.okWide_of_okWideB (base := 0) hok).1, (Input.okWide_of_okWideB hok).2, ?_, ?_⟩
  · obtain ⟨places, hx⟩ : ∃ places, DataW.whole enc Tryd.prog ((w0 os).forCall (fun _ _ => 0) ⟨#[], #[.string ⟨#[]⟩], []⟩).memory Tryd.f3.params.toList (OpenSpec.ofChange Rows.verbsReadsSpec).vars false #[Value.string ⟨#[]⟩].toList 8 = some ([.lit (.string [])], [], places) := ⟨[], by kernel_rfl⟩
    exact OpenSpec.preRow_of_cond 8 hx (by kernel_rfl) (fun k hk => by cases hk) (by kernel_rfl) (by rw [plainLaid]; exact laidMet_laidAll _ (by kernel_rfl) (by kernel_rfl))
  · simp only [Assume.holds]
    exact ⟨by simp, by simp, fun _ => Modest.zero, by simp, by simp⟩

set_option maxRecDepth 100000 in
theorem lifted (os : Os) (started : os.Started) (H : Type) (enc : TypeId × Value → H) (F : Stop.Interp) :
    ReturnsInHanded {} Tryd.checked os 3 .any ((OpenSpec.ofChange Rows.verbsReadsSpec).preRow enc Tryd.prog Tryd.f3 Rows.verbsReadsRow.domain false Rows.verbsReadsRow.laid) (((OpenSpec.ofChange Rows.verbsReadsSpec).at F).post enc Tryd.prog Tryd.f3 false true false false) := by
  refine returnsInHanded_of_row (C := Tryd.checked) (s := OpenSpec.ofChange Rows.verbsReadsSpec) own started (by kernel_rfl) Tryd.func3 (witness os enc) ?_
  intro W base args ds gs before hval hW _ _ hsz hL hsh _
  have hsz' : (DataW.weightsEach Tryd.prog (Tryd.f3.params.toList ++ (OpenSpec.ofChange Rows.verbsReadsSpec).bare.plain.varTypes Tryd.prog) (ds ++ gs)).all (· ≤ reachBytes) = true := hsz
  have hval' : ∀ (j : Nat) t v, Tryd.f3.params[j]? = some t → args[j]? = some v → Value.okWide Tryd.prog W .any base t v := hval
  have hW' := hW
  obtain ⟨p, q, hA0, hV, rfl, _, _⟩ := hW
  have hA : DataW.TrodAll enc Tryd.prog W 0 (fun _ => true) true Tryd.f3.params.toList args.toList ds p := hA0
  rw [Tryd.params3] at hA hval' hsz'
  obtain ⟨v0, d0, rfl, rfl, h0⟩ := trodAll_one hA
  obtain ⟨rfl, rfl⟩ := trodVars_none hV
  obtain ⟨s, rfl, rfl, rfl, hs⟩ := open_string Tryd.underlying9 (hval' 0 9 v0 rfl rfl) h0
  have hlim : s.size ≤ 140737488351232 := by
    have h1 := sized_string hsz' (j := 0) (t := 9) rfl rfl
    simpa [reachBytes] using h1
  have hL' : laidMetH Tryd.prog Rows.verbsReadsRow.laid W := hL
  rw [plainLaid] at hL'
  refine (V.reads_any s W (env hL' hsh (size8 hL')) hlim).mono fun e W' ⟨he, hb⟩ => ?_
  subst he
  simp only [List.append_nil] at hW'
  exact ⟨_, rfl, _, _, _, [], [], [], hW', trodAll_mk1 (shut_bool Tryd.underlying4 _), trodAll_mk1 (shut_string Tryd.underlying9 hs), rfl, hb.frame _, fun h => by cases h⟩

theorem said : Rows.VerbsReadsSaid :=
  OpenClaim.holds_of_cond 3 Tryd.f3 rfl rfl rfl rfl rfl rfl rfl ⟨rfl, rfl, rfl, rfl, rfl⟩ rfl rfl rfl rfl rfl (by kernel_rfl) Tryd.func3 (by kernel_rfl)
    (of_decide_eq_true (by kernel_rfl)) (by unfold Func.isWrapper; first | (rw [if_pos (by decide +kernel)]; kernel_rfl) | (rw [if_neg (by decide +kernel)]; exact ⟨rfl, rfl⟩))
    (fun os started H enc _ F => by rw [OpenClaim.pre_eq_preRow]; exact lifted os started H enc F)

theorem plain (f : FuncId) (fn : Func) (hf : Tryd.pinned.checked.prog.funcNamed "backfill/backfilllaw08.VerbsReads" = some f) (hfn : Tryd.pinned.checked.prog.funcs[f]? = some fn) :
    true = Tryd.pinned.checked.prog.looks [] ∧ ∀ (j : Nat) t, fn.params[j]? = some t → Tryd.pinned.checked.prog.wantsStandIn t = false := by
  obtain rfl : f = 3 := Option.some.inj ((show Tryd.prog.funcNamed "backfill/backfilllaw08.VerbsReads" = some 3 by kernel_rfl).symm.trans hf) |>.symm
  obtain rfl : fn = Tryd.f3 := (Option.some.inj (Tryd.func3.symm.trans hfn)).symm
  refine ⟨by kernel_rfl, fun j t ht => ?_⟩
  rw [Tryd.params3] at ht
  obtain rfl : t = 9 := by simpa using Array.mem_of_getElem? ht
  exact (show Tryd.prog.wantsStandIn 9 = false by kernel_rfl)

theorem card : Rows.VerbsReadsCardSaid :=
  Claim7.holds_tied_plain_at .later [] _ _ _ _ said (fun _ h => by cases h) (by kernel_rfl) (fun _ h => by cases h) verbsReads_row_tie rfl ⟨rfl, rfl⟩ (by kernel_rfl) rfl plain (by kernel_rfl)
#print axioms card

end Go.Proofs.YtamimpomeigllaaDoor.VReads
