/- Own text, put together out of sections that print.sh wrote for this seat (verbs.verbs, verbs.Valid): their contracts. -/
import Derived.Test.YtamimpomeigllaaDoorPVerbsReadsx0
namespace Go.Proofs.YtamimpomeigllaaDoor.PVerbsReads
open Go.RowKit Go.Proofs.YtamimpomeigllaaDoorW.PrintWords Go.Proofs.YtamimpomeigllaaDoorW.PrintLast Go.Proofs.YtamimpomeigllaaDoorW.PrintMore
attribute [local go_sem] max2_int min2_int max_two min_two max_three min_three max_four min_four   -- for this text's walks alone
set_option linter.unusedVariables false
set_option linter.unusedSimpArgs false

/-! ### verbs_verbs: function 15 -/
def verbs_verbs.f  : Option ((List (S39))) := some (([(⟨1, (⟨#[115, 117, 98, 109, 105, 116]⟩ : ByteArray), (([0, 3, 4] : List Int))⟩ : S39), (⟨2, (⟨#[99, 97, 110, 99, 101, 108]⟩ : ByteArray), (([5] : List Int))⟩ : S39), (⟨3, (⟨#[99, 111, 109, 112, 108, 101, 116, 101]⟩ : ByteArray), (([5] : List Int))⟩ : S39), (⟨4, (⟨#[116, 105, 99, 107]⟩ : ByteArray), (([6] : List Int))⟩ : S39), (⟨5, (⟨#[97, 99, 99, 111, 117, 110, 116]⟩ : ByteArray), (([0, 1, 2] : List Int))⟩ : S39), (⟨6, (⟨#[115, 104, 97, 114, 101, 115]⟩ : ByteArray), (([0, 2] : List Int))⟩ : S39), (⟨7, (⟨#[109, 111, 118, 101]⟩ : ByteArray), (([0, 1] : List Int))⟩ : S39), (⟨8, (⟨#[99, 108, 111, 115, 101]⟩ : ByteArray), (([0] : List Int))⟩ : S39), (⟨9, (⟨#[106, 111, 98]⟩ : ByteArray), (([5] : List Int))⟩ : S39), (⟨10, (⟨#[113, 117, 101, 117, 101]⟩ : ByteArray), ([] : List Int)⟩ : S39), (⟨11, (⟨#[117, 115, 97, 103, 101]⟩ : ByteArray), (([0] : List Int))⟩ : S39), (⟨12, (⟨#[110, 111, 100, 101, 115]⟩ : ByteArray), ([] : List Int)⟩ : S39), (⟨13, (⟨#[99, 111, 110, 102, 105, 103]⟩ : ByteArray), ([] : List Int)⟩ : S39)] : List (S39)))
set_option maxHeartbeats 8000000 in
set_option maxRecDepth 100000 in
theorem verbs_verbs.calls  (r : List (S39)) (w : World) (h : verbs_verbs.f  = some r) :
    Calls Tryd.prog 15 #[] w fun e w' => ∃ v0_ : Value, e = .returned (v0_) ∧ Kd.N k39 39 w' w.heap.size (fun k_ => (w.heap.size ≤ k_)) v0_ r ∧ Below w.heap.size w w' := by
  have hu39 := Tryd.underlying39
  have HB := Aside0.mk (Below.refl w.heap.size w)
  have H : (some (([(⟨1, (⟨#[115, 117, 98, 109, 105, 116]⟩ : ByteArray), (([0, 3, 4] : List Int))⟩ : S39), (⟨2, (⟨#[99, 97, 110, 99, 101, 108]⟩ : ByteArray), (([5] : List Int))⟩ : S39), (⟨3, (⟨#[99, 111, 109, 112, 108, 101, 116, 101]⟩ : ByteArray), (([5] : List Int))⟩ : S39), (⟨4, (⟨#[116, 105, 99, 107]⟩ : ByteArray), (([6] : List Int))⟩ : S39), (⟨5, (⟨#[97, 99, 99, 111, 117, 110, 116]⟩ : ByteArray), (([0, 1, 2] : List Int))⟩ : S39), (⟨6, (⟨#[115, 104, 97, 114, 101, 115]⟩ : ByteArray), (([0, 2] : List Int))⟩ : S39), (⟨7, (⟨#[109, 111, 118, 101]⟩ : ByteArray), (([0, 1] : List Int))⟩ : S39), (⟨8, (⟨#[99, 108, 111, 115, 101]⟩ : ByteArray), (([0] : List Int))⟩ : S39), (⟨9, (⟨#[106, 111, 98]⟩ : ByteArray), (([5] : List Int))⟩ : S39), (⟨10, (⟨#[113, 117, 101, 117, 101]⟩ : ByteArray), ([] : List Int)⟩ : S39), (⟨11, (⟨#[117, 115, 97, 103, 101]⟩ : ByteArray), (([0] : List Int))⟩ : S39), (⟨12, (⟨#[110, 111, 100, 101, 115]⟩ : ByteArray), ([] : List Int)⟩ : S39), (⟨13, (⟨#[99, 111, 110, 102, 105, 103]⟩ : ByteArray), ([] : List Int)⟩ : S39)] : List (S39)))) = some r := h
  clear h
  obtain ⟨y103, hy103⟩ : ∃ y_ : List Int, y_ = (([0, 3, 4] : List Int)) := ⟨_, rfl⟩
  replace H : (some (([(⟨1, (⟨#[115, 117, 98, 109, 105, 116]⟩ : ByteArray), y103⟩ : S39), (⟨2, (⟨#[99, 97, 110, 99, 101, 108]⟩ : ByteArray), (([5] : List Int))⟩ : S39), (⟨3, (⟨#[99, 111, 109, 112, 108, 101, 116, 101]⟩ : ByteArray), (([5] : List Int))⟩ : S39), (⟨4, (⟨#[116, 105, 99, 107]⟩ : ByteArray), (([6] : List Int))⟩ : S39), (⟨5, (⟨#[97, 99, 99, 111, 117, 110, 116]⟩ : ByteArray), (([0, 1, 2] : List Int))⟩ : S39), (⟨6, (⟨#[115, 104, 97, 114, 101, 115]⟩ : ByteArray), (([0, 2] : List Int))⟩ : S39), (⟨7, (⟨#[109, 111, 118, 101]⟩ : ByteArray), (([0, 1] : List Int))⟩ : S39), (⟨8, (⟨#[99, 108, 111, 115, 101]⟩ : ByteArray), (([0] : List Int))⟩ : S39), (⟨9, (⟨#[106, 111, 98]⟩ : ByteArray), (([5] : List Int))⟩ : S39), (⟨10, (⟨#[113, 117, 101, 117, 101]⟩ : ByteArray), ([] : List Int)⟩ : S39), (⟨11, (⟨#[117, 115, 97, 103, 101]⟩ : ByteArray), (([0] : List Int))⟩ : S39), (⟨12, (⟨#[110, 111, 100, 101, 115]⟩ : ByteArray), ([] : List Int)⟩ : S39), (⟨13, (⟨#[99, 111, 110, 102, 105, 103]⟩ : ByteArray), ([] : List Int)⟩ : S39)] : List (S39)))) = some r := by first | (rw [hy103]; with_reducible exact H) | (have H2_ := (Option.bind_some _ _).symm.trans H; rw [hy103]; with_reducible exact H2_) | (have H2_ := (Option.bind_some _ _).symm.trans H; with_reducible exact H2_) | with_reducible exact H | (rw [hy103]; exact H) | exact H
  have Ny103 := Aside0.mk hy103
  clear hy103
  obtain ⟨y106, hy106⟩ : ∃ y_ : List Int, y_ = (([5] : List Int)) := ⟨_, rfl⟩
  replace H : (some (([(⟨1, (⟨#[115, 117, 98, 109, 105, 116]⟩ : ByteArray), y103⟩ : S39), (⟨2, (⟨#[99, 97, 110, 99, 101, 108]⟩ : ByteArray), y106⟩ : S39), (⟨3, (⟨#[99, 111, 109, 112, 108, 101, 116, 101]⟩ : ByteArray), (([5] : List Int))⟩ : S39), (⟨4, (⟨#[116, 105, 99, 107]⟩ : ByteArray), (([6] : List Int))⟩ : S39), (⟨5, (⟨#[97, 99, 99, 111, 117, 110, 116]⟩ : ByteArray), (([0, 1, 2] : List Int))⟩ : S39), (⟨6, (⟨#[115, 104, 97, 114, 101, 115]⟩ : ByteArray), (([0, 2] : List Int))⟩ : S39), (⟨7, (⟨#[109, 111, 118, 101]⟩ : ByteArray), (([0, 1] : List Int))⟩ : S39), (⟨8, (⟨#[99, 108, 111, 115, 101]⟩ : ByteArray), (([0] : List Int))⟩ : S39), (⟨9, (⟨#[106, 111, 98]⟩ : ByteArray), (([5] : List Int))⟩ : S39), (⟨10, (⟨#[113, 117, 101, 117, 101]⟩ : ByteArray), ([] : List Int)⟩ : S39), (⟨11, (⟨#[117, 115, 97, 103, 101]⟩ : ByteArray), (([0] : List Int))⟩ : S39), (⟨12, (⟨#[110, 111, 100, 101, 115]⟩ : ByteArray), ([] : List Int)⟩ : S39), (⟨13, (⟨#[99, 111, 110, 102, 105, 103]⟩ : ByteArray), ([] : List Int)⟩ : S39)] : List (S39)))) = some r := by first | (rw [hy106]; with_reducible exact H) | (have H2_ := (Option.bind_some _ _).symm.trans H; rw [hy106]; with_reducible exact H2_) | (have H2_ := (Option.bind_some _ _).symm.trans H; with_reducible exact H2_) | with_reducible exact H | (rw [hy106]; exact H) | exact H
  have Ny106 := Aside0.mk hy106
  clear hy106
  obtain ⟨y109, hy109⟩ : ∃ y_ : List Int, y_ = (([5] : List Int)) := ⟨_, rfl⟩
  replace H : (some (([(⟨1, (⟨#[115, 117, 98, 109, 105, 116]⟩ : ByteArray), y103⟩ : S39), (⟨2, (⟨#[99, 97, 110, 99, 101, 108]⟩ : ByteArray), y106⟩ : S39), (⟨3, (⟨#[99, 111, 109, 112, 108, 101, 116, 101]⟩ : ByteArray), y109⟩ : S39), (⟨4, (⟨#[116, 105, 99, 107]⟩ : ByteArray), (([6] : List Int))⟩ : S39), (⟨5, (⟨#[97, 99, 99, 111, 117, 110, 116]⟩ : ByteArray), (([0, 1, 2] : List Int))⟩ : S39), (⟨6, (⟨#[115, 104, 97, 114, 101, 115]⟩ : ByteArray), (([0, 2] : List Int))⟩ : S39), (⟨7, (⟨#[109, 111, 118, 101]⟩ : ByteArray), (([0, 1] : List Int))⟩ : S39), (⟨8, (⟨#[99, 108, 111, 115, 101]⟩ : ByteArray), (([0] : List Int))⟩ : S39), (⟨9, (⟨#[106, 111, 98]⟩ : ByteArray), (([5] : List Int))⟩ : S39), (⟨10, (⟨#[113, 117, 101, 117, 101]⟩ : ByteArray), ([] : List Int)⟩ : S39), (⟨11, (⟨#[117, 115, 97, 103, 101]⟩ : ByteArray), (([0] : List Int))⟩ : S39), (⟨12, (⟨#[110, 111, 100, 101, 115]⟩ : ByteArray), ([] : List Int)⟩ : S39), (⟨13, (⟨#[99, 111, 110, 102, 105, 103]⟩ : ByteArray), ([] : List Int)⟩ : S39)] : List (S39)))) = some r := by first | (rw [hy109]; with_reducible exact H) | (have H2_ := (Option.bind_some _ _).symm.trans H; rw [hy109]; with_reducible exact H2_) | (have H2_ := (Option.bind_some _ _).symm.trans H; with_reducible exact H2_) | with_reducible exact H | (rw [hy109]; exact H) | exact H
  have Ny109 := Aside0.mk hy109
  clear hy109
  obtain ⟨y112, hy112⟩ : ∃ y_ : List Int, y_ = (([6] : List Int)) := ⟨_, rfl⟩
  replace H : (some (([(⟨1, (⟨#[115, 117, 98, 109, 105, 116]⟩ : ByteArray), y103⟩ : S39), (⟨2, (⟨#[99, 97, 110, 99, 101, 108]⟩ : ByteArray), y106⟩ : S39), (⟨3, (⟨#[99, 111, 109, 112, 108, 101, 116, 101]⟩ : ByteArray), y109⟩ : S39), (⟨4, (⟨#[116, 105, 99, 107]⟩ : ByteArray), y112⟩ : S39), (⟨5, (⟨#[97, 99, 99, 111, 117, 110, 116]⟩ : ByteArray), (([0, 1, 2] : List Int))⟩ : S39), (⟨6, (⟨#[115, 104, 97, 114, 101, 115]⟩ : ByteArray), (([0, 2] : List Int))⟩ : S39), (⟨7, (⟨#[109, 111, 118, 101]⟩ : ByteArray), (([0, 1] : List Int))⟩ : S39), (⟨8, (⟨#[99, 108, 111, 115, 101]⟩ : ByteArray), (([0] : List Int))⟩ : S39), (⟨9, (⟨#[106, 111, 98]⟩ : ByteArray), (([5] : List Int))⟩ : S39), (⟨10, (⟨#[113, 117, 101, 117, 101]⟩ : ByteArray), ([] : List Int)⟩ : S39), (⟨11, (⟨#[117, 115, 97, 103, 101]⟩ : ByteArray), (([0] : List Int))⟩ : S39), (⟨12, (⟨#[110, 111, 100, 101, 115]⟩ : ByteArray), ([] : List Int)⟩ : S39), (⟨13, (⟨#[99, 111, 110, 102, 105, 103]⟩ : ByteArray), ([] : List Int)⟩ : S39)] : List (S39)))) = some r := by first | (rw [hy112]; with_reducible exact H) | (have H2_ := (Option.bind_some _ _).symm.trans H; rw [hy112]; with_reducible exact H2_) | (have H2_ := (Option.bind_some _ _).symm.trans H; with_reducible exact H2_) | with_reducible exact H | (rw [hy112]; exact H) | exact H
  have Ny112 := Aside0.mk hy112
  clear hy112
  obtain ⟨y115, hy115⟩ : ∃ y_ : List Int, y_ = (([0, 1, 2] : List Int)) := ⟨_, rfl⟩
  replace H : (some (([(⟨1, (⟨#[115, 117, 98, 109, 105, 116]⟩ : ByteArray), y103⟩ : S39), (⟨2, (⟨#[99, 97, 110, 99, 101, 108]⟩ : ByteArray), y106⟩ : S39), (⟨3, (⟨#[99, 111, 109, 112, 108, 101, 116, 101]⟩ : ByteArray), y109⟩ : S39), (⟨4, (⟨#[116, 105, 99, 107]⟩ : ByteArray), y112⟩ : S39), (⟨5, (⟨#[97, 99, 99, 111, 117, 110, 116]⟩ : ByteArray), y115⟩ : S39), (⟨6, (⟨#[115, 104, 97, 114, 101, 115]⟩ : ByteArray), (([0, 2] : List Int))⟩ : S39), (⟨7, (⟨#[109, 111, 118, 101]⟩ : ByteArray), (([0, 1] : List Int))⟩ : S39), (⟨8, (⟨#[99, 108, 111, 115, 101]⟩ : ByteArray), (([0] : List Int))⟩ : S39), (⟨9, (⟨#[106, 111, 98]⟩ : ByteArray), (([5] : List Int))⟩ : S39), (⟨10, (⟨#[113, 117, 101, 117, 101]⟩ : ByteArray), ([] : List Int)⟩ : S39), (⟨11, (⟨#[117, 115, 97, 103, 101]⟩ : ByteArray), (([0] : List Int))⟩ : S39), (⟨12, (⟨#[110, 111, 100, 101, 115]⟩ : ByteArray), ([] : List Int)⟩ : S39), (⟨13, (⟨#[99, 111, 110, 102, 105, 103]⟩ : ByteArray), ([] : List Int)⟩ : S39)] : List (S39)))) = some r := by first | (rw [hy115]; with_reducible exact H) | (have H2_ := (Option.bind_some _ _).symm.trans H; rw [hy115]; with_reducible exact H2_) | (have H2_ := (Option.bind_some _ _).symm.trans H; with_reducible exact H2_) | with_reducible exact H | (rw [hy115]; exact H) | exact H
  have Ny115 := Aside0.mk hy115
  clear hy115
  obtain ⟨y118, hy118⟩ : ∃ y_ : List Int, y_ = (([0, 2] : List Int)) := ⟨_, rfl⟩
  replace H : (some (([(⟨1, (⟨#[115, 117, 98, 109, 105, 116]⟩ : ByteArray), y103⟩ : S39), (⟨2, (⟨#[99, 97, 110, 99, 101, 108]⟩ : ByteArray), y106⟩ : S39), (⟨3, (⟨#[99, 111, 109, 112, 108, 101, 116, 101]⟩ : ByteArray), y109⟩ : S39), (⟨4, (⟨#[116, 105, 99, 107]⟩ : ByteArray), y112⟩ : S39), (⟨5, (⟨#[97, 99, 99, 111, 117, 110, 116]⟩ : ByteArray), y115⟩ : S39), (⟨6, (⟨#[115, 104, 97, 114, 101, 115]⟩ : ByteArray), y118⟩ : S39), (⟨7, (⟨#[109, 111, 118, 101]⟩ : ByteArray), (([0, 1] : List Int))⟩ : S39), (⟨8, (⟨#[99, 108, 111, 115, 101]⟩ : ByteArray), (([0] : List Int))⟩ : S39), (⟨9, (⟨#[106, 111, 98]⟩ : ByteArray), (([5] : List Int))⟩ : S39), (⟨10, (⟨#[113, 117, 101, 117, 101]⟩ : ByteArray), ([] : List Int)⟩ : S39), (⟨11, (⟨#[117, 115, 97, 103, 101]⟩ : ByteArray), (([0] : List Int))⟩ : S39), (⟨12, (⟨#[110, 111, 100, 101, 115]⟩ : ByteArray), ([] : List Int)⟩ : S39), (⟨13, (⟨#[99, 111, 110, 102, 105, 103]⟩ : ByteArray), ([] : List Int)⟩ : S39)] : List (S39)))) = some r := by first | (rw [hy118]; with_reducible exact H) | (have H2_ := (Option.bind_some _ _).symm.trans H; rw [hy118]; with_reducible exact H2_) | (have H2_ := (Option.bind_some _ _).symm.trans H; with_reducible exact H2_) | with_reducible exact H | (rw [hy118]; exact H) | exact H
  have Ny118 := Aside0.mk hy118
  clear hy118
  obtain ⟨y121, hy121⟩ : ∃ y_ : List Int, y_ = (([0, 1] : List Int)) := ⟨_, rfl⟩
  replace H : (some (([(⟨1, (⟨#[115, 117, 98, 109, 105, 116]⟩ : ByteArray), y103⟩ : S39), (⟨2, (⟨#[99, 97, 110, 99, 101, 108]⟩ : ByteArray), y106⟩ : S39), (⟨3, (⟨#[99, 111, 109, 112, 108, 101, 116, 101]⟩ : ByteArray), y109⟩ : S39), (⟨4, (⟨#[116, 105, 99, 107]⟩ : ByteArray), y112⟩ : S39), (⟨5, (⟨#[97, 99, 99, 111, 117, 110, 116]⟩ : ByteArray), y115⟩ : S39), (⟨6, (⟨#[115, 104, 97, 114, 101, 115]⟩ : ByteArray), y118⟩ : S39), (⟨7, (⟨#[109, 111, 118, 101]⟩ : ByteArray), y121⟩ : S39), (⟨8, (⟨#[99, 108, 111, 115, 101]⟩ : ByteArray), (([0] : List Int))⟩ : S39), (⟨9, (⟨#[106, 111, 98]⟩ : ByteArray), (([5] : List Int))⟩ : S39), (⟨10, (⟨#[113, 117, 101, 117, 101]⟩ : ByteArray), ([] : List Int)⟩ : S39), (⟨11, (⟨#[117, 115, 97, 103, 101]⟩ : ByteArray), (([0] : List Int))⟩ : S39), (⟨12, (⟨#[110, 111, 100, 101, 115]⟩ : ByteArray), ([] : List Int)⟩ : S39), (⟨13, (⟨#[99, 111, 110, 102, 105, 103]⟩ : ByteArray), ([] : List Int)⟩ : S39)] : List (S39)))) = some r := by first | (rw [hy121]; with_reducible exact H) | (have H2_ := (Option.bind_some _ _).symm.trans H; rw [hy121]; with_reducible exact H2_) | (have H2_ := (Option.bind_some _ _).symm.trans H; with_reducible exact H2_) | with_reducible exact H | (rw [hy121]; exact H) | exact H
  have Ny121 := Aside0.mk hy121
  clear hy121
  obtain ⟨y124, hy124⟩ : ∃ y_ : List Int, y_ = (([0] : List Int)) := ⟨_, rfl⟩
  replace H : (some (([(⟨1, (⟨#[115, 117, 98, 109, 105, 116]⟩ : ByteArray), y103⟩ : S39), (⟨2, (⟨#[99, 97, 110, 99, 101, 108]⟩ : ByteArray), y106⟩ : S39), (⟨3, (⟨#[99, 111, 109, 112, 108, 101, 116, 101]⟩ : ByteArray), y109⟩ : S39), (⟨4, (⟨#[116, 105, 99, 107]⟩ : ByteArray), y112⟩ : S39), (⟨5, (⟨#[97, 99, 99, 111, 117, 110, 116]⟩ : ByteArray), y115⟩ : S39), (⟨6, (⟨#[115, 104, 97, 114, 101, 115]⟩ : ByteArray), y118⟩ : S39), (⟨7, (⟨#[109, 111, 118, 101]⟩ : ByteArray), y121⟩ : S39), (⟨8, (⟨#[99, 108, 111, 115, 101]⟩ : ByteArray), y124⟩ : S39), (⟨9, (⟨#[106, 111, 98]⟩ : ByteArray), (([5] : List Int))⟩ : S39), (⟨10, (⟨#[113, 117, 101, 117, 101]⟩ : ByteArray), ([] : List Int)⟩ : S39), (⟨11, (⟨#[117, 115, 97, 103, 101]⟩ : ByteArray), (([0] : List Int))⟩ : S39), (⟨12, (⟨#[110, 111, 100, 101, 115]⟩ : ByteArray), ([] : List Int)⟩ : S39), (⟨13, (⟨#[99, 111, 110, 102, 105, 103]⟩ : ByteArray), ([] : List Int)⟩ : S39)] : List (S39)))) = some r := by first | (rw [hy124]; with_reducible exact H) | (have H2_ := (Option.bind_some _ _).symm.trans H; rw [hy124]; with_reducible exact H2_) | (have H2_ := (Option.bind_some _ _).symm.trans H; with_reducible exact H2_) | with_reducible exact H | (rw [hy124]; exact H) | exact H
  have Ny124 := Aside0.mk hy124
  clear hy124
  obtain ⟨y127, hy127⟩ : ∃ y_ : List Int, y_ = (([5] : List Int)) := ⟨_, rfl⟩
  replace H : (some (([(⟨1, (⟨#[115, 117, 98, 109, 105, 116]⟩ : ByteArray), y103⟩ : S39), (⟨2, (⟨#[99, 97, 110, 99, 101, 108]⟩ : ByteArray), y106⟩ : S39), (⟨3, (⟨#[99, 111, 109, 112, 108, 101, 116, 101]⟩ : ByteArray), y109⟩ : S39), (⟨4, (⟨#[116, 105, 99, 107]⟩ : ByteArray), y112⟩ : S39), (⟨5, (⟨#[97, 99, 99, 111, 117, 110, 116]⟩ : ByteArray), y115⟩ : S39), (⟨6, (⟨#[115, 104, 97, 114, 101, 115]⟩ : ByteArray), y118⟩ : S39), (⟨7, (⟨#[109, 111, 118, 101]⟩ : ByteArray), y121⟩ : S39), (⟨8, (⟨#[99, 108, 111, 115, 101]⟩ : ByteArray), y124⟩ : S39), (⟨9, (⟨#[106, 111, 98]⟩ : ByteArray), y127⟩ : S39), (⟨10, (⟨#[113, 117, 101, 117, 101]⟩ : ByteArray), ([] : List Int)⟩ : S39), (⟨11, (⟨#[117, 115, 97, 103, 101]⟩ : ByteArray), (([0] : List Int))⟩ : S39), (⟨12, (⟨#[110, 111, 100, 101, 115]⟩ : ByteArray), ([] : List Int)⟩ : S39), (⟨13, (⟨#[99, 111, 110, 102, 105, 103]⟩ : ByteArray), ([] : List Int)⟩ : S39)] : List (S39)))) = some r := by first | (rw [hy127]; with_reducible exact H) | (have H2_ := (Option.bind_some _ _).symm.trans H; rw [hy127]; with_reducible exact H2_) | (have H2_ := (Option.bind_some _ _).symm.trans H; with_reducible exact H2_) | with_reducible exact H | (rw [hy127]; exact H) | exact H
  have Ny127 := Aside0.mk hy127
  clear hy127
  obtain ⟨y130, hy130⟩ : ∃ y_ : List Int, y_ = (([0] : List Int)) := ⟨_, rfl⟩
  replace H : (some (([(⟨1, (⟨#[115, 117, 98, 109, 105, 116]⟩ : ByteArray), y103⟩ : S39), (⟨2, (⟨#[99, 97, 110, 99, 101, 108]⟩ : ByteArray), y106⟩ : S39), (⟨3, (⟨#[99, 111, 109, 112, 108, 101, 116, 101]⟩ : ByteArray), y109⟩ : S39), (⟨4, (⟨#[116, 105, 99, 107]⟩ : ByteArray), y112⟩ : S39), (⟨5, (⟨#[97, 99, 99, 111, 117, 110, 116]⟩ : ByteArray), y115⟩ : S39), (⟨6, (⟨#[115, 104, 97, 114, 101, 115]⟩ : ByteArray), y118⟩ : S39), (⟨7, (⟨#[109, 111, 118, 101]⟩ : ByteArray), y121⟩ : S39), (⟨8, (⟨#[99, 108, 111, 115, 101]⟩ : ByteArray), y124⟩ : S39), (⟨9, (⟨#[106, 111, 98]⟩ : ByteArray), y127⟩ : S39), (⟨10, (⟨#[113, 117, 101, 117, 101]⟩ : ByteArray), ([] : List Int)⟩ : S39), (⟨11, (⟨#[117, 115, 97, 103, 101]⟩ : ByteArray), y130⟩ : S39), (⟨12, (⟨#[110, 111, 100, 101, 115]⟩ : ByteArray), ([] : List Int)⟩ : S39), (⟨13, (⟨#[99, 111, 110, 102, 105, 103]⟩ : ByteArray), ([] : List Int)⟩ : S39)] : List (S39)))) = some r := by first | (rw [hy130]; with_reducible exact H) | (have H2_ := (Option.bind_some _ _).symm.trans H; rw [hy130]; with_reducible exact H2_) | (have H2_ := (Option.bind_some _ _).symm.trans H; with_reducible exact H2_) | with_reducible exact H | (rw [hy130]; exact H) | exact H
  have Ny130 := Aside0.mk hy130
  clear hy130
  obtain ⟨y133, hy133⟩ : ∃ y_ : List (S39), y_ = (([(⟨1, (⟨#[115, 117, 98, 109, 105, 116]⟩ : ByteArray), y103⟩ : S39), (⟨2, (⟨#[99, 97, 110, 99, 101, 108]⟩ : ByteArray), y106⟩ : S39), (⟨3, (⟨#[99, 111, 109, 112, 108, 101, 116, 101]⟩ : ByteArray), y109⟩ : S39), (⟨4, (⟨#[116, 105, 99, 107]⟩ : ByteArray), y112⟩ : S39), (⟨5, (⟨#[97, 99, 99, 111, 117, 110, 116]⟩ : ByteArray), y115⟩ : S39), (⟨6, (⟨#[115, 104, 97, 114, 101, 115]⟩ : ByteArray), y118⟩ : S39), (⟨7, (⟨#[109, 111, 118, 101]⟩ : ByteArray), y121⟩ : S39), (⟨8, (⟨#[99, 108, 111, 115, 101]⟩ : ByteArray), y124⟩ : S39), (⟨9, (⟨#[106, 111, 98]⟩ : ByteArray), y127⟩ : S39), (⟨10, (⟨#[113, 117, 101, 117, 101]⟩ : ByteArray), ([] : List Int)⟩ : S39), (⟨11, (⟨#[117, 115, 97, 103, 101]⟩ : ByteArray), y130⟩ : S39), (⟨12, (⟨#[110, 111, 100, 101, 115]⟩ : ByteArray), ([] : List Int)⟩ : S39), (⟨13, (⟨#[99, 111, 110, 102, 105, 103]⟩ : ByteArray), ([] : List Int)⟩ : S39)] : List (S39))) := ⟨_, rfl⟩
  replace H : (some y133) = some r := by first | (rw [hy133]; with_reducible exact H) | (have H2_ := (Option.bind_some _ _).symm.trans H; rw [hy133]; with_reducible exact H2_) | (have H2_ := (Option.bind_some _ _).symm.trans H; with_reducible exact H2_) | with_reducible exact H | (rw [hy133]; exact H) | exact H
  have Ny133 := Aside0.mk hy133
  clear hy133
  obtain rfl := Option.some.inj H
  go_enter Tryd.func15, Tryd.ntmps15
  go_wp2_with (first | ((with_reducible refine gate_dst (N := 1) rfl ?_); refine Kd.R_lit (Kd.int .i64) _ 3 ?hg (N := 1) ?hd (xs := ([0, 3, 4] : List Int)) (inner := [.int .i64 0, .int .i64 3, .int .i64 4]) (ok := fun _ => True) (okp := fun _ => True) ?hr ?hp (fun _ hk => hk) trivial (Below.refl _ _) (Nat.le_refl _) (by simp) ?_; (case hd => rfl); (case hg => rfl); (case hr => first | (go_simp; done) | (go_simp; rfl)); (case hp => exact (Reps.one (show Kd.M (Kd.int .i64) _ _ _ 0 [.int .i64 0] from rfl) (Reps.one (show Kd.M (Kd.int .i64) _ _ _ 3 [.int .i64 3] from rfl) (Reps.one (show Kd.M (Kd.int .i64) _ _ _ 4 [.int .i64 4] from rfl) (Reps.none _ _))))); intro v104 w1 ho2 hb hg_ hnew_; clear hg_ hnew_; (first | rw [← Ny103.out] at ho2 | (simp only [Int.reduceToNat] at ho2; rw [← Ny103.out] at ho2)); have n0_ := Aside0.mk (Kd.R_lower (Kd.R_newM (M := fun k_ => (w.heap.size ≤ k_)) ho2 (below_size (by repeat (first | (with_reducible first | exact HB.out | apply below_alloc | apply pw_below_drewN | apply below_drew1) | exact HB.out))) (fun k_ h_ => h_)) (below_size (by repeat (first | (with_reducible first | exact HB.out | apply below_alloc | apply pw_below_drewN | apply below_drew1) | exact HB.out)))); have n1_ := Aside0.mk (below_step (by repeat (first | (with_reducible first | exact HB.out | apply below_alloc | apply pw_below_drewN | apply below_drew1) | exact HB.out)) hb); clear HB; have HO105 := n0_; have HB := n1_; clear n0_ n1_; clear hb ho2; obtain ⟨Ao3, co3, eo3⟩ := Kd.R_slice HO105.out; subst eo3) | ((with_reducible refine gate_dst (N := 3) rfl ?_); refine Kd.R_lit (Kd.int .i64) _ 3 ?hg (N := 3) ?hd (xs := ([5] : List Int)) (inner := [.int .i64 5]) (ok := fun _ => True) (okp := fun _ => True) ?hr ?hp (fun _ hk => hk) trivial (Below.refl _ _) (Nat.le_refl _) (by simp) ?_; (case hd => rfl); (case hg => rfl); (case hr => first | (go_simp; done) | (go_simp; rfl)); (case hp => exact (Reps.one (show Kd.M (Kd.int .i64) _ _ _ 5 [.int .i64 5] from rfl) (Reps.none _ _))); intro v107 w4 ho5 hb hg_ hnew_; clear hg_ hnew_; (first | rw [← Ny106.out] at ho5 | (simp only [Int.reduceToNat] at ho5; rw [← Ny106.out] at ho5)); have n0_ := Aside0.mk (Kd.R_elder' (by (with_reducible repeat (first | apply Kd.R_alloc | apply Kd.R_drewN | apply Kd.R_drew)); exact HO105.out) (Kd.R_base ho5) hb); have n1_ := Aside0.mk (Kd.R_lower (Kd.R_new' (Kd.R_newM (M := fun k_ => (w.heap.size ≤ k_)) ho5 (below_size (by repeat (first | (with_reducible first | exact HB.out | apply below_alloc | apply pw_below_drewN | apply below_drew1) | exact HB.out))) (fun k_ h_ => h_)) (Kd.R_lt (by (with_reducible repeat (first | apply Kd.R_alloc | apply Kd.R_drewN | apply Kd.R_drew)); exact HO105.out))) (below_size (by repeat (first | (with_reducible first | exact HB.out | apply below_alloc | apply pw_below_drewN | apply below_drew1) | exact HB.out)))); have n2_ := Aside0.mk (below_step (by repeat (first | (with_reducible first | exact HB.out | apply below_alloc | apply pw_below_drewN | apply below_drew1) | exact HB.out)) hb); clear HO105; clear HB; have HO105 := n0_; have HO108 := n1_; have HB := n2_; clear n0_ n1_ n2_; clear hb ho5; obtain ⟨Ao6, co6, eo6⟩ := Kd.R_slice HO108.out; subst eo6) | ((with_reducible refine gate_dst (N := 5) rfl ?_); refine Kd.R_lit (Kd.int .i64) _ 3 ?hg (N := 5) ?hd (xs := ([5] : List Int)) (inner := [.int .i64 5]) (ok := fun _ => True) (okp := fun _ => True) ?hr ?hp (fun _ hk => hk) trivial (Below.refl _ _) (Nat.le_refl _) (by simp) ?_; (case hd => rfl); (case hg => rfl); (case hr => first | (go_simp; done) | (go_simp; rfl)); (case hp => exact (Reps.one (show Kd.M (Kd.int .i64) _ _ _ 5 [.int .i64 5] from rfl) (Reps.none _ _))); intro v110 w7 ho8 hb hg_ hnew_; clear hg_ hnew_; (first | rw [← Ny109.out] at ho8 | (simp only [Int.reduceToNat] at ho8; rw [← Ny109.out] at ho8)); have n0_ := Aside0.mk (Kd.R_elder' (by (with_reducible repeat (first | apply Kd.R_alloc | apply Kd.R_drewN | apply Kd.R_drew)); exact HO105.out) (Kd.R_base ho8) hb); have n1_ := Aside0.mk (Kd.R_elder' (by (with_reducible repeat (first | apply Kd.R_alloc | apply Kd.R_drewN | apply Kd.R_drew)); exact HO108.out) (Kd.R_base ho8) hb); have n2_ := Aside0.mk (Kd.R_lower (Kd.R_new' (Kd.R_new' (Kd.R_newM (M := fun k_ => (w.heap.size ≤ k_)) ho8 (below_size (by repeat (first | (with_reducible first | exact HB.out | apply below_alloc | apply pw_below_drewN | apply below_drew1) | exact HB.out))) (fun k_ h_ => h_)) (Kd.R_lt (by (with_reducible repeat (first | apply Kd.R_alloc | apply Kd.R_drewN | apply Kd.R_drew)); exact HO105.out))) (Kd.R_lt (by (with_reducible repeat (first | apply Kd.R_alloc | apply Kd.R_drewN | apply Kd.R_drew)); exact HO108.out))) (below_size (by repeat (first | (with_reducible first | exact HB.out | apply below_alloc | apply pw_below_drewN | apply below_drew1) | exact HB.out)))); have n3_ := Aside0.mk (below_step (by repeat (first | (with_reducible first | exact HB.out | apply below_alloc | apply pw_below_drewN | apply below_drew1) | exact HB.out)) hb); clear HO105; clear HO108; clear HB; have HO105 := n0_; have HO108 := n1_; have HO111 := n2_; have HB := n3_; clear n0_ n1_ n2_ n3_; clear hb ho8; obtain ⟨Ao9, co9, eo9⟩ := Kd.R_slice HO111.out; subst eo9) | ((with_reducible refine gate_dst (N := 7) rfl ?_); refine Kd.R_lit (Kd.int .i64) _ 3 ?hg (N := 7) ?hd (xs := ([6] : List Int)) (inner := [.int .i64 6]) (ok := fun _ => True) (okp := fun _ => True) ?hr ?hp (fun _ hk => hk) trivial (Below.refl _ _) (Nat.le_refl _) (by simp) ?_; (case hd => rfl); (case hg => rfl); (case hr => first | (go_simp; done) | (go_simp; rfl)); (case hp => exact (Reps.one (show Kd.M (Kd.int .i64) _ _ _ 6 [.int .i64 6] from rfl) (Reps.none _ _))); intro v113 w10 ho11 hb hg_ hnew_; clear hg_ hnew_; (first | rw [← Ny112.out] at ho11 | (simp only [Int.reduceToNat] at ho11; rw [← Ny112.out] at ho11)); have n0_ := Aside0.mk (Kd.R_elder' (by (with_reducible repeat (first | apply Kd.R_alloc | apply Kd.R_drewN | apply Kd.R_drew)); exact HO105.out) (Kd.R_base ho11) hb); have n1_ := Aside0.mk (Kd.R_elder' (by (with_reducible repeat (first | apply Kd.R_alloc | apply Kd.R_drewN | apply Kd.R_drew)); exact HO108.out) (Kd.R_base ho11) hb); have n2_ := Aside0.mk (Kd.R_elder' (by (with_reducible repeat (first | apply Kd.R_alloc | apply Kd.R_drewN | apply Kd.R_drew)); exact HO111.out) (Kd.R_base ho11) hb); have n3_ := Aside0.mk (Kd.R_lower (Kd.R_new' (Kd.R_new' (Kd.R_new' (Kd.R_newM (M := fun k_ => (w.heap.size ≤ k_)) ho11 (below_size (by repeat (first | (with_reducible first | exact HB.out | apply below_alloc | apply pw_below_drewN | apply below_drew1) | exact HB.out))) (fun k_ h_ => h_)) (Kd.R_lt (by (with_reducible repeat (first | apply Kd.R_alloc | apply Kd.R_drewN | apply Kd.R_drew)); exact HO105.out))) (Kd.R_lt (by (with_reducible repeat (first | apply Kd.R_alloc | apply Kd.R_drewN | apply Kd.R_drew)); exact HO108.out))) (Kd.R_lt (by (with_reducible repeat (first | apply Kd.R_alloc | apply Kd.R_drewN | apply Kd.R_drew)); exact HO111.out))) (below_size (by repeat (first | (with_reducible first | exact HB.out | apply below_alloc | apply pw_below_drewN | apply below_drew1) | exact HB.out)))); have n4_ := Aside0.mk (below_step (by repeat (first | (with_reducible first | exact HB.out | apply below_alloc | apply pw_below_drewN | apply below_drew1) | exact HB.out)) hb); clear HO105; clear HO108; clear HO111; clear HB; have HO105 := n0_; have HO108 := n1_; have HO111 := n2_; have HO114 := n3_; have HB := n4_; clear n0_ n1_ n2_ n3_ n4_; clear hb ho11; obtain ⟨Ao12, co12, eo12⟩ := Kd.R_slice HO114.out; subst eo12) | ((with_reducible refine gate_dst (N := 9) rfl ?_); refine Kd.R_lit (Kd.int .i64) _ 3 ?hg (N := 9) ?hd (xs := ([0, 1, 2] : List Int)) (inner := [.int .i64 0, .int .i64 1, .int .i64 2]) (ok := fun _ => True) (okp := fun _ => True) ?hr ?hp (fun _ hk => hk) trivial (Below.refl _ _) (Nat.le_refl _) (by simp) ?_; (case hd => rfl); (case hg => rfl); (case hr => first | (go_simp; done) | (go_simp; rfl)); (case hp => exact (Reps.one (show Kd.M (Kd.int .i64) _ _ _ 0 [.int .i64 0] from rfl) (Reps.one (show Kd.M (Kd.int .i64) _ _ _ 1 [.int .i64 1] from rfl) (Reps.one (show Kd.M (Kd.int .i64) _ _ _ 2 [.int .i64 2] from rfl) (Reps.none _ _))))); intro v116 w13 ho14 hb hg_ hnew_; clear hg_ hnew_; (first | rw [← Ny115.out] at ho14 | (simp only [Int.reduceToNat] at ho14; rw [← Ny115.out] at ho14)); have n0_ := Aside0.mk (Kd.R_elder' (by (with_reducible repeat (first | apply Kd.R_alloc | apply Kd.R_drewN | apply Kd.R_drew)); exact HO105.out) (Kd.R_base ho14) hb); have n1_ := Aside0.mk (Kd.R_elder' (by (with_reducible repeat (first | apply Kd.R_alloc | apply Kd.R_drewN | apply Kd.R_drew)); exact HO108.out) (Kd.R_base ho14) hb); have n2_ := Aside0.mk (Kd.R_elder' (by (with_reducible repeat (first | apply Kd.R_alloc | apply Kd.R_drewN | apply Kd.R_drew)); exact HO111.out) (Kd.R_base ho14) hb); have n3_ := Aside0.mk (Kd.R_elder' (by (with_reducible repeat (first | apply Kd.R_alloc | apply Kd.R_drewN | apply Kd.R_drew)); exact HO114.out) (Kd.R_base ho14) hb); have n4_ := Aside0.mk (Kd.R_lower (Kd.R_new' (Kd.R_new' (Kd.R_new' (Kd.R_new' (Kd.R_newM (M := fun k_ => (w.heap.size ≤ k_)) ho14 (below_size (by repeat (first | (with_reducible first | exact HB.out | apply below_alloc | apply pw_below_drewN | apply below_drew1) | exact HB.out))) (fun k_ h_ => h_)) (Kd.R_lt (by (with_reducible repeat (first | apply Kd.R_alloc | apply Kd.R_drewN | apply Kd.R_drew)); exact HO105.out))) (Kd.R_lt (by (with_reducible repeat (first | apply Kd.R_alloc | apply Kd.R_drewN | apply Kd.R_drew)); exact HO108.out))) (Kd.R_lt (by (with_reducible repeat (first | apply Kd.R_alloc | apply Kd.R_drewN | apply Kd.R_drew)); exact HO111.out))) (Kd.R_lt (by (with_reducible repeat (first | apply Kd.R_alloc | apply Kd.R_drewN | apply Kd.R_drew)); exact HO114.out))) (below_size (by repeat (first | (with_reducible first | exact HB.out | apply below_alloc | apply pw_below_drewN | apply below_drew1) | exact HB.out)))); have n5_ := Aside0.mk (below_step (by repeat (first | (with_reducible first | exact HB.out | apply below_alloc | apply pw_below_drewN | apply below_drew1) | exact HB.out)) hb); clear HO105; clear HO108; clear HO111; clear HO114; clear HB; have HO105 := n0_; have HO108 := n1_; have HO111 := n2_; have HO114 := n3_; have HO117 := n4_; have HB := n5_; clear n0_ n1_ n2_ n3_ n4_ n5_; clear hb ho14; obtain ⟨Ao15, co15, eo15⟩ := Kd.R_slice HO117.out; subst eo15) | ((with_reducible refine gate_dst (N := 11) rfl ?_); refine Kd.R_lit (Kd.int .i64) _ 3 ?hg (N := 11) ?hd (xs := ([0, 2] : List Int)) (inner := [.int .i64 0, .int .i64 2]) (ok := fun _ => True) (okp := fun _ => True) ?hr ?hp (fun _ hk => hk) trivial (Below.refl _ _) (Nat.le_refl _) (by simp) ?_; (case hd => rfl); (case hg => rfl); (case hr => first | (go_simp; done) | (go_simp; rfl)); (case hp => exact (Reps.one (show Kd.M (Kd.int .i64) _ _ _ 0 [.int .i64 0] from rfl) (Reps.one (show Kd.M (Kd.int .i64) _ _ _ 2 [.int .i64 2] from rfl) (Reps.none _ _)))); intro v119 w16 ho17 hb hg_ hnew_; clear hg_ hnew_; (first | rw [← Ny118.out] at ho17 | (simp only [Int.reduceToNat] at ho17; rw [← Ny118.out] at ho17)); have n0_ := Aside0.mk (Kd.R_elder' (by (with_reducible repeat (first | apply Kd.R_alloc | apply Kd.R_drewN | apply Kd.R_drew)); exact HO105.out) (Kd.R_base ho17) hb); have n1_ := Aside0.mk (Kd.R_elder' (by (with_reducible repeat (first | apply Kd.R_alloc | apply Kd.R_drewN | apply Kd.R_drew)); exact HO108.out) (Kd.R_base ho17) hb); have n2_ := Aside0.mk (Kd.R_elder' (by (with_reducible repeat (first | apply Kd.R_alloc | apply Kd.R_drewN | apply Kd.R_drew)); exact HO111.out) (Kd.R_base ho17) hb); have n3_ := Aside0.mk (Kd.R_elder' (by (with_reducible repeat (first | apply Kd.R_alloc | apply Kd.R_drewN | apply Kd.R_drew)); exact HO114.out) (Kd.R_base ho17) hb); have n4_ := Aside0.mk (Kd.R_elder' (by (with_reducible repeat (first | apply Kd.R_alloc | apply Kd.R_drewN | apply Kd.R_drew)); exact HO117.out) (Kd.R_base ho17) hb); have n5_ := Aside0.mk (Kd.R_lower (Kd.R_new' (Kd.R_new' (Kd.R_new' (Kd.R_new' (Kd.R_new' (Kd.R_newM (M := fun k_ => (w.heap.size ≤ k_)) ho17 (below_size (by repeat (first | (with_reducible first | exact HB.out | apply below_alloc | apply pw_below_drewN | apply below_drew1) | exact HB.out))) (fun k_ h_ => h_)) (Kd.R_lt (by (with_reducible repeat (first | apply Kd.R_alloc | apply Kd.R_drewN | apply Kd.R_drew)); exact HO105.out))) (Kd.R_lt (by (with_reducible repeat (first | apply Kd.R_alloc | apply Kd.R_drewN | apply Kd.R_drew)); exact HO108.out))) (Kd.R_lt (by (with_reducible repeat (first | apply Kd.R_alloc | apply Kd.R_drewN | apply Kd.R_drew)); exact HO111.out))) (Kd.R_lt (by (with_reducible repeat (first | apply Kd.R_alloc | apply Kd.R_drewN | apply Kd.R_drew)); exact HO114.out))) (Kd.R_lt (by (with_reducible repeat (first | apply Kd.R_alloc | apply Kd.R_drewN | apply Kd.R_drew)); exact HO117.out))) (below_size (by repeat (first | (with_reducible first | exact HB.out | apply below_alloc | apply pw_below_drewN | apply below_drew1) | exact HB.out)))); have n6_ := Aside0.mk (below_step (by repeat (first | (with_reducible first | exact HB.out | apply below_alloc | apply pw_below_drewN | apply below_drew1) | exact HB.out)) hb); clear HO105; clear HO108; clear HO111; clear HO114; clear HO117; clear HB; have HO105 := n0_; have HO108 := n1_; have HO111 := n2_; have HO114 := n3_; have HO117 := n4_; have HO120 := n5_; have HB := n6_; clear n0_ n1_ n2_ n3_ n4_ n5_ n6_; clear hb ho17; obtain ⟨Ao18, co18, eo18⟩ := Kd.R_slice HO120.out; subst eo18) | ((with_reducible refine gate_dst (N := 13) rfl ?_); refine Kd.R_lit (Kd.int .i64) _ 3 ?hg (N := 13) ?hd (xs := ([0, 1] : List Int)) (inner := [.int .i64 0, .int .i64 1]) (ok := fun _ => True) (okp := fun _ => True) ?hr ?hp (fun _ hk => hk) trivial (Below.refl _ _) (Nat.le_refl _) (by simp) ?_; (case hd => rfl); (case hg => rfl); (case hr => first | (go_simp; done) | (go_simp; rfl)); (case hp => exact (Reps.one (show Kd.M (Kd.int .i64) _ _ _ 0 [.int .i64 0] from rfl) (Reps.one (show Kd.M (Kd.int .i64) _ _ _ 1 [.int .i64 1] from rfl) (Reps.none _ _)))); intro v122 w19 ho20 hb hg_ hnew_; clear hg_ hnew_; (first | rw [← Ny121.out] at ho20 | (simp only [Int.reduceToNat] at ho20; rw [← Ny121.out] at ho20)); have n0_ := Aside0.mk (Kd.R_elder' (by (with_reducible repeat (first | apply Kd.R_alloc | apply Kd.R_drewN | apply Kd.R_drew)); exact HO105.out) (Kd.R_base ho20) hb); have n1_ := Aside0.mk (Kd.R_elder' (by (with_reducible repeat (first | apply Kd.R_alloc | apply Kd.R_drewN | apply Kd.R_drew)); exact HO108.out) (Kd.R_base ho20) hb); have n2_ := Aside0.mk (Kd.R_elder' (by (with_reducible repeat (first | apply Kd.R_alloc | apply Kd.R_drewN | apply Kd.R_drew)); exact HO111.out) (Kd.R_base ho20) hb); have n3_ := Aside0.mk (Kd.R_elder' (by (with_reducible repeat (first | apply Kd.R_alloc | apply Kd.R_drewN | apply Kd.R_drew)); exact HO114.out) (Kd.R_base ho20) hb); have n4_ := Aside0.mk (Kd.R_elder' (by (with_reducible repeat (first | apply Kd.R_alloc | apply Kd.R_drewN | apply Kd.R_drew)); exact HO117.out) (Kd.R_base ho20) hb); have n5_ := Aside0.mk (Kd.R_elder' (by (with_reducible repeat (first | apply Kd.R_alloc | apply Kd.R_drewN | apply Kd.R_drew)); exact HO120.out) (Kd.R_base ho20) hb); have n6_ := Aside0.mk (Kd.R_lower (Kd.R_new' (Kd.R_new' (Kd.R_new' (Kd.R_new' (Kd.R_new' (Kd.R_new' (Kd.R_newM (M := fun k_ => (w.heap.size ≤ k_)) ho20 (below_size (by repeat (first | (with_reducible first | exact HB.out | apply below_alloc | apply pw_below_drewN | apply below_drew1) | exact HB.out))) (fun k_ h_ => h_)) (Kd.R_lt (by (with_reducible repeat (first | apply Kd.R_alloc | apply Kd.R_drewN | apply Kd.R_drew)); exact HO105.out))) (Kd.R_lt (by (with_reducible repeat (first | apply Kd.R_alloc | apply Kd.R_drewN | apply Kd.R_drew)); exact HO108.out))) (Kd.R_lt (by (with_reducible repeat (first | apply Kd.R_alloc | apply Kd.R_drewN | apply Kd.R_drew)); exact HO111.out))) (Kd.R_lt (by (with_reducible repeat (first | apply Kd.R_alloc | apply Kd.R_drewN | apply Kd.R_drew)); exact HO114.out))) (Kd.R_lt (by (with_reducible repeat (first | apply Kd.R_alloc | apply Kd.R_drewN | apply Kd.R_drew)); exact HO117.out))) (Kd.R_lt (by (with_reducible repeat (first | apply Kd.R_alloc | apply Kd.R_drewN | apply Kd.R_drew)); exact HO120.out))) (below_size (by repeat (first | (with_reducible first | exact HB.out | apply below_alloc | apply pw_below_drewN | apply below_drew1) | exact HB.out)))); have n7_ := Aside0.mk (below_step (by repeat (first | (with_reducible first | exact HB.out | apply below_alloc | apply pw_below_drewN | apply below_drew1) | exact HB.out)) hb); clear HO105; clear HO108; clear HO111; clear HO114; clear HO117; clear HO120; clear HB; have HO105 := n0_; have HO108 := n1_; have HO111 := n2_; have HO114 := n3_; have HO117 := n4_; have HO120 := n5_; have HO123 := n6_; have HB := n7_; clear n0_ n1_ n2_ n3_ n4_ n5_ n6_ n7_; clear hb ho20; obtain ⟨Ao21, co21, eo21⟩ := Kd.R_slice HO123.out; subst eo21) | ((with_reducible refine gate_dst (N := 15) rfl ?_); refine Kd.R_lit (Kd.int .i64) _ 3 ?hg (N := 15) ?hd (xs := ([0] : List Int)) (inner := [.int .i64 0]) (ok := fun _ => True) (okp := fun _ => True) ?hr ?hp (fun _ hk => hk) trivial (Below.refl _ _) (Nat.le_refl _) (by simp) ?_; (case hd => rfl); (case hg => rfl); (case hr => first | (go_simp; done) | (go_simp; rfl)); (case hp => exact (Reps.one (show Kd.M (Kd.int .i64) _ _ _ 0 [.int .i64 0] from rfl) (Reps.none _ _))); intro v125 w22 ho23 hb hg_ hnew_; clear hg_ hnew_; (first | rw [← Ny124.out] at ho23 | (simp only [Int.reduceToNat] at ho23; rw [← Ny124.out] at ho23)); have n0_ := Aside0.mk (Kd.R_elder' (by (with_reducible repeat (first | apply Kd.R_alloc | apply Kd.R_drewN | apply Kd.R_drew)); exact HO105.out) (Kd.R_base ho23) hb); have n1_ := Aside0.mk (Kd.R_elder' (by (with_reducible repeat (first | apply Kd.R_alloc | apply Kd.R_drewN | apply Kd.R_drew)); exact HO108.out) (Kd.R_base ho23) hb); have n2_ := Aside0.mk (Kd.R_elder' (by (with_reducible repeat (first | apply Kd.R_alloc | apply Kd.R_drewN | apply Kd.R_drew)); exact HO111.out) (Kd.R_base ho23) hb); have n3_ := Aside0.mk (Kd.R_elder' (by (with_reducible repeat (first | apply Kd.R_alloc | apply Kd.R_drewN | apply Kd.R_drew)); exact HO114.out) (Kd.R_base ho23) hb); have n4_ := Aside0.mk (Kd.R_elder' (by (with_reducible repeat (first | apply Kd.R_alloc | apply Kd.R_drewN | apply Kd.R_drew)); exact HO117.out) (Kd.R_base ho23) hb); have n5_ := Aside0.mk (Kd.R_elder' (by (with_reducible repeat (first | apply Kd.R_alloc | apply Kd.R_drewN | apply Kd.R_drew)); exact HO120.out) (Kd.R_base ho23) hb); have n6_ := Aside0.mk (Kd.R_elder' (by (with_reducible repeat (first | apply Kd.R_alloc | apply Kd.R_drewN | apply Kd.R_drew)); exact HO123.out) (Kd.R_base ho23) hb); have n7_ := Aside0.mk (Kd.R_lower (Kd.R_new' (Kd.R_new' (Kd.R_new' (Kd.R_new' (Kd.R_new' (Kd.R_new' (Kd.R_new' (Kd.R_newM (M := fun k_ => (w.heap.size ≤ k_)) ho23 (below_size (by repeat (first | (with_reducible first | exact HB.out | apply below_alloc | apply pw_below_drewN | apply below_drew1) | exact HB.out))) (fun k_ h_ => h_)) (Kd.R_lt (by (with_reducible repeat (first | apply Kd.R_alloc | apply Kd.R_drewN | apply Kd.R_drew)); exact HO105.out))) (Kd.R_lt (by (with_reducible repeat (first | apply Kd.R_alloc | apply Kd.R_drewN | apply Kd.R_drew)); exact HO108.out))) (Kd.R_lt (by (with_reducible repeat (first | apply Kd.R_alloc | apply Kd.R_drewN | apply Kd.R_drew)); exact HO111.out))) (Kd.R_lt (by (with_reducible repeat (first | apply Kd.R_alloc | apply Kd.R_drewN | apply Kd.R_drew)); exact HO114.out))) (Kd.R_lt (by (with_reducible repeat (first | apply Kd.R_alloc | apply Kd.R_drewN | apply Kd.R_drew)); exact HO117.out))) (Kd.R_lt (by (with_reducible repeat (first | apply Kd.R_alloc | apply Kd.R_drewN | apply Kd.R_drew)); exact HO120.out))) (Kd.R_lt (by (with_reducible repeat (first | apply Kd.R_alloc | apply Kd.R_drewN | apply Kd.R_drew)); exact HO123.out))) (below_size (by repeat (first | (with_reducible first | exact HB.out | apply below_alloc | apply pw_below_drewN | apply below_drew1) | exact HB.out)))); have n8_ := Aside0.mk (below_step (by repeat (first | (with_reducible first | exact HB.out | apply below_alloc | apply pw_below_drewN | apply below_drew1) | exact HB.out)) hb); clear HO105; clear HO108; clear HO111; clear HO114; clear HO117; clear HO120; clear HO123; clear HB; have HO105 := n0_; have HO108 := n1_; have HO111 := n2_; have HO114 := n3_; have HO117 := n4_; have HO120 := n5_; have HO123 := n6_; have HO126 := n7_; have HB := n8_; clear n0_ n1_ n2_ n3_ n4_ n5_ n6_ n7_ n8_; clear hb ho23; obtain ⟨Ao24, co24, eo24⟩ := Kd.R_slice HO126.out; subst eo24) | ((with_reducible refine gate_dst (N := 17) rfl ?_); refine Kd.R_lit (Kd.int .i64) _ 3 ?hg (N := 17) ?hd (xs := ([5] : List Int)) (inner := [.int .i64 5]) (ok := fun _ => True) (okp := fun _ => True) ?hr ?hp (fun _ hk => hk) trivial (Below.refl _ _) (Nat.le_refl _) (by simp) ?_; (case hd => rfl); (case hg => rfl); (case hr => first | (go_simp; done) | (go_simp; rfl)); (case hp => exact (Reps.one (show Kd.M (Kd.int .i64) _ _ _ 5 [.int .i64 5] from rfl) (Reps.none _ _))); intro v128 w25 ho26 hb hg_ hnew_; clear hg_ hnew_; (first | rw [← Ny127.out] at ho26 | (simp only [Int.reduceToNat] at ho26; rw [← Ny127.out] at ho26)); have n0_ := Aside0.mk (Kd.R_elder' (by (with_reducible repeat (first | apply Kd.R_alloc | apply Kd.R_drewN | apply Kd.R_drew)); exact HO105.out) (Kd.R_base ho26) hb); have n1_ := Aside0.mk (Kd.R_elder' (by (with_reducible repeat (first | apply Kd.R_alloc | apply Kd.R_drewN | apply Kd.R_drew)); exact HO108.out) (Kd.R_base ho26) hb); have n2_ := Aside0.mk (Kd.R_elder' (by (with_reducible repeat (first | apply Kd.R_alloc | apply Kd.R_drewN | apply Kd.R_drew)); exact HO111.out) (Kd.R_base ho26) hb); have n3_ := Aside0.mk (Kd.R_elder' (by (with_reducible repeat (first | apply Kd.R_alloc | apply Kd.R_drewN | apply Kd.R_drew)); exact HO114.out) (Kd.R_base ho26) hb); have n4_ := Aside0.mk (Kd.R_elder' (by (with_reducible repeat (first | apply Kd.R_alloc | apply Kd.R_drewN | apply Kd.R_drew)); exact HO117.out) (Kd.R_base ho26) hb); have n5_ := Aside0.mk (Kd.R_elder' (by (with_reducible repeat (first | apply Kd.R_alloc | apply Kd.R_drewN | apply Kd.R_drew)); exact HO120.out) (Kd.R_base ho26) hb); have n6_ := Aside0.mk (Kd.R_elder' (by (with_reducible repeat (first | apply Kd.R_alloc | apply Kd.R_drewN | apply Kd.R_drew)); exact HO123.out) (Kd.R_base ho26) hb); have n7_ := Aside0.mk (Kd.R_elder' (by (with_reducible repeat (first | apply Kd.R_alloc | apply Kd.R_drewN | apply Kd.R_drew)); exact HO126.out) (Kd.R_base ho26) hb); have n8_ := Aside0.mk (Kd.R_lower (Kd.R_new' (Kd.R_new' (Kd.R_new' (Kd.R_new' (Kd.R_new' (Kd.R_new' (Kd.R_new' (Kd.R_new' (Kd.R_newM (M := fun k_ => (w.heap.size ≤ k_)) ho26 (below_size (by repeat (first | (with_reducible first | exact HB.out | apply below_alloc | apply pw_below_drewN | apply below_drew1) | exact HB.out))) (fun k_ h_ => h_)) (Kd.R_lt (by (with_reducible repeat (first | apply Kd.R_alloc | apply Kd.R_drewN | apply Kd.R_drew)); exact HO105.out))) (Kd.R_lt (by (with_reducible repeat (first | apply Kd.R_alloc | apply Kd.R_drewN | apply Kd.R_drew)); exact HO108.out))) (Kd.R_lt (by (with_reducible repeat (first | apply Kd.R_alloc | apply Kd.R_drewN | apply Kd.R_drew)); exact HO111.out))) (Kd.R_lt (by (with_reducible repeat (first | apply Kd.R_alloc | apply Kd.R_drewN | apply Kd.R_drew)); exact HO114.out))) (Kd.R_lt (by (with_reducible repeat (first | apply Kd.R_alloc | apply Kd.R_drewN | apply Kd.R_drew)); exact HO117.out))) (Kd.R_lt (by (with_reducible repeat (first | apply Kd.R_alloc | apply Kd.R_drewN | apply Kd.R_drew)); exact HO120.out))) (Kd.R_lt (by (with_reducible repeat (first | apply Kd.R_alloc | apply Kd.R_drewN | apply Kd.R_drew)); exact HO123.out))) (Kd.R_lt (by (with_reducible repeat (first | apply Kd.R_alloc | apply Kd.R_drewN | apply Kd.R_drew)); exact HO126.out))) (below_size (by repeat (first | (with_reducible first | exact HB.out | apply below_alloc | apply pw_below_drewN | apply below_drew1) | exact HB.out)))); have n9_ := Aside0.mk (below_step (by repeat (first | (with_reducible first | exact HB.out | apply below_alloc | apply pw_below_drewN | apply below_drew1) | exact HB.out)) hb); clear HO105; clear HO108; clear HO111; clear HO114; clear HO117; clear HO120; clear HO123; clear HO126; clear HB; have HO105 := n0_; have HO108 := n1_; have HO111 := n2_; have HO114 := n3_; have HO117 := n4_; have HO120 := n5_; have HO123 := n6_; have HO126 := n7_; have HO129 := n8_; have HB := n9_; clear n0_ n1_ n2_ n3_ n4_ n5_ n6_ n7_ n8_ n9_; clear hb ho26; obtain ⟨Ao27, co27, eo27⟩ := Kd.R_slice HO129.out; subst eo27) | ((with_reducible refine gate_dst (N := 20) rfl ?_); refine Kd.R_lit (Kd.int .i64) _ 3 ?hg (N := 20) ?hd (xs := ([0] : List Int)) (inner := [.int .i64 0]) (ok := fun _ => True) (okp := fun _ => True) ?hr ?hp (fun _ hk => hk) trivial (Below.refl _ _) (Nat.le_refl _) (by simp) ?_; (case hd => rfl); (case hg => rfl); (case hr => first | (go_simp; done) | (go_simp; rfl)); (case hp => exact (Reps.one (show Kd.M (Kd.int .i64) _ _ _ 0 [.int .i64 0] from rfl) (Reps.none _ _))); intro v131 w28 ho29 hb hg_ hnew_; clear hg_ hnew_; (first | rw [← Ny130.out] at ho29 | (simp only [Int.reduceToNat] at ho29; rw [← Ny130.out] at ho29)); have n0_ := Aside0.mk (Kd.R_elder' (by (with_reducible repeat (first | apply Kd.R_alloc | apply Kd.R_drewN | apply Kd.R_drew)); exact HO105.out) (Kd.R_base ho29) hb); have n1_ := Aside0.mk (Kd.R_elder' (by (with_reducible repeat (first | apply Kd.R_alloc | apply Kd.R_drewN | apply Kd.R_drew)); exact HO108.out) (Kd.R_base ho29) hb); have n2_ := Aside0.mk (Kd.R_elder' (by (with_reducible repeat (first | apply Kd.R_alloc | apply Kd.R_drewN | apply Kd.R_drew)); exact HO111.out) (Kd.R_base ho29) hb); have n3_ := Aside0.mk (Kd.R_elder' (by (with_reducible repeat (first | apply Kd.R_alloc | apply Kd.R_drewN | apply Kd.R_drew)); exact HO114.out) (Kd.R_base ho29) hb); have n4_ := Aside0.mk (Kd.R_elder' (by (with_reducible repeat (first | apply Kd.R_alloc | apply Kd.R_drewN | apply Kd.R_drew)); exact HO117.out) (Kd.R_base ho29) hb); have n5_ := Aside0.mk (Kd.R_elder' (by (with_reducible repeat (first | apply Kd.R_alloc | apply Kd.R_drewN | apply Kd.R_drew)); exact HO120.out) (Kd.R_base ho29) hb); have n6_ := Aside0.mk (Kd.R_elder' (by (with_reducible repeat (first | apply Kd.R_alloc | apply Kd.R_drewN | apply Kd.R_drew)); exact HO123.out) (Kd.R_base ho29) hb); have n7_ := Aside0.mk (Kd.R_elder' (by (with_reducible repeat (first | apply Kd.R_alloc | apply Kd.R_drewN | apply Kd.R_drew)); exact HO126.out) (Kd.R_base ho29) hb); have n8_ := Aside0.mk (Kd.R_elder' (by (with_reducible repeat (first | apply Kd.R_alloc | apply Kd.R_drewN | apply Kd.R_drew)); exact HO129.out) (Kd.R_base ho29) hb); have n9_ := Aside0.mk (Kd.R_lower (Kd.R_new' (Kd.R_new' (Kd.R_new' (Kd.R_new' (Kd.R_new' (Kd.R_new' (Kd.R_new' (Kd.R_new' (Kd.R_new' (Kd.R_newM (M := fun k_ => (w.heap.size ≤ k_)) ho29 (below_size (by repeat (first | (with_reducible first | exact HB.out | apply below_alloc | apply pw_below_drewN | apply below_drew1) | exact HB.out))) (fun k_ h_ => h_)) (Kd.R_lt (by (with_reducible repeat (first | apply Kd.R_alloc | apply Kd.R_drewN | apply Kd.R_drew)); exact HO105.out))) (Kd.R_lt (by (with_reducible repeat (first | apply Kd.R_alloc | apply Kd.R_drewN | apply Kd.R_drew)); exact HO108.out))) (Kd.R_lt (by (with_reducible repeat (first | apply Kd.R_alloc | apply Kd.R_drewN | apply Kd.R_drew)); exact HO111.out))) (Kd.R_lt (by (with_reducible repeat (first | apply Kd.R_alloc | apply Kd.R_drewN | apply Kd.R_drew)); exact HO114.out))) (Kd.R_lt (by (with_reducible repeat (first | apply Kd.R_alloc | apply Kd.R_drewN | apply Kd.R_drew)); exact HO117.out))) (Kd.R_lt (by (with_reducible repeat (first | apply Kd.R_alloc | apply Kd.R_drewN | apply Kd.R_drew)); exact HO120.out))) (Kd.R_lt (by (with_reducible repeat (first | apply Kd.R_alloc | apply Kd.R_drewN | apply Kd.R_drew)); exact HO123.out))) (Kd.R_lt (by (with_reducible repeat (first | apply Kd.R_alloc | apply Kd.R_drewN | apply Kd.R_drew)); exact HO126.out))) (Kd.R_lt (by (with_reducible repeat (first | apply Kd.R_alloc | apply Kd.R_drewN | apply Kd.R_drew)); exact HO129.out))) (below_size (by repeat (first | (with_reducible first | exact HB.out | apply below_alloc | apply pw_below_drewN | apply below_drew1) | exact HB.out)))); have n10_ := Aside0.mk (below_step (by repeat (first | (with_reducible first | exact HB.out | apply below_alloc | apply pw_below_drewN | apply below_drew1) | exact HB.out)) hb); clear HO105; clear HO108; clear HO111; clear HO114; clear HO117; clear HO120; clear HO123; clear HO126; clear HO129; clear HB; have HO105 := n0_; have HO108 := n1_; have HO111 := n2_; have HO114 := n3_; have HO117 := n4_; have HO120 := n5_; have HO123 := n6_; have HO126 := n7_; have HO129 := n8_; have HO132 := n9_; have HB := n10_; clear n0_ n1_ n2_ n3_ n4_ n5_ n6_ n7_ n8_ n9_ n10_; clear hb ho29; obtain ⟨Ao30, co30, eo30⟩ := Kd.R_slice HO132.out; subst eo30) | ((with_reducible refine gate_dst (N := 24) rfl ?_); refine Kd.N_lit k39 _ 39 ?hg (N' := 24) ?hd (xs := ([(⟨1, (⟨#[115, 117, 98, 109, 105, 116]⟩ : ByteArray), y103⟩ : S39), (⟨2, (⟨#[99, 97, 110, 99, 101, 108]⟩ : ByteArray), y106⟩ : S39), (⟨3, (⟨#[99, 111, 109, 112, 108, 101, 116, 101]⟩ : ByteArray), y109⟩ : S39), (⟨4, (⟨#[116, 105, 99, 107]⟩ : ByteArray), y112⟩ : S39), (⟨5, (⟨#[97, 99, 99, 111, 117, 110, 116]⟩ : ByteArray), y115⟩ : S39), (⟨6, (⟨#[115, 104, 97, 114, 101, 115]⟩ : ByteArray), y118⟩ : S39), (⟨7, (⟨#[109, 111, 118, 101]⟩ : ByteArray), y121⟩ : S39), (⟨8, (⟨#[99, 108, 111, 115, 101]⟩ : ByteArray), y124⟩ : S39), (⟨9, (⟨#[106, 111, 98]⟩ : ByteArray), y127⟩ : S39), (⟨10, (⟨#[113, 117, 101, 117, 101]⟩ : ByteArray), ([] : List Int)⟩ : S39), (⟨11, (⟨#[117, 115, 97, 103, 101]⟩ : ByteArray), y130⟩ : S39), (⟨12, (⟨#[110, 111, 100, 101, 115]⟩ : ByteArray), ([] : List Int)⟩ : S39), (⟨13, (⟨#[99, 111, 110, 102, 105, 103]⟩ : ByteArray), ([] : List Int)⟩ : S39)] : List (S39))) (inner := [.int .i64 1, .string (⟨#[115, 117, 98, 109, 105, 116]⟩ : ByteArray), .slice Ao3 y103.length co3, .int .i64 2, .string (⟨#[99, 97, 110, 99, 101, 108]⟩ : ByteArray), .slice Ao6 y106.length co6, .int .i64 3, .string (⟨#[99, 111, 109, 112, 108, 101, 116, 101]⟩ : ByteArray), .slice Ao9 y109.length co9, .int .i64 4, .string (⟨#[116, 105, 99, 107]⟩ : ByteArray), .slice Ao12 y112.length co12, .int .i64 5, .string (⟨#[97, 99, 99, 111, 117, 110, 116]⟩ : ByteArray), .slice Ao15 y115.length co15, .int .i64 6, .string (⟨#[115, 104, 97, 114, 101, 115]⟩ : ByteArray), .slice Ao18 y118.length co18, .int .i64 7, .string (⟨#[109, 111, 118, 101]⟩ : ByteArray), .slice Ao21 y121.length co21, .int .i64 8, .string (⟨#[99, 108, 111, 115, 101]⟩ : ByteArray), .slice Ao24 y124.length co24, .int .i64 9, .string (⟨#[106, 111, 98]⟩ : ByteArray), .slice Ao27 y127.length co27, .int .i64 10, .string (⟨#[113, 117, 101, 117, 101]⟩ : ByteArray), .slice none 0 0, .int .i64 11, .string (⟨#[117, 115, 97, 103, 101]⟩ : ByteArray), .slice Ao30 y130.length co30, .int .i64 12, .string (⟨#[110, 111, 100, 101, 115]⟩ : ByteArray), .slice none 0 0, .int .i64 13, .string (⟨#[99, 111, 110, 102, 105, 103]⟩ : ByteArray), .slice none 0 0]) (ok := (fun k_ => (w.heap.size ≤ k_))) (okp := (fun k_ => (w.heap.size ≤ k_))) ?hr ?hp (fun _ hk => hk) ((show ∀ k_, w28.heap.size ≤ k_ → (fun k_ => (w.heap.size ≤ k_)) k_ from fun k_ hk => (Nat.le_trans (below_size (by repeat (first | (with_reducible first | exact HB.out | apply below_alloc | apply pw_below_drewN | apply below_drew1) | exact HB.out))) hk)) _ (Nat.le_refl _)) (Below.refl _ _) (Nat.le_refl _) (by simp) ?_; (case hd => rfl); (case hg => rfl); (case hr => first | (go_simp; done) | (go_simp; rfl)); (case hp => exact (Reps.c3 (show Kd.FK k39 _ _ (⟨1, (⟨#[115, 117, 98, 109, 105, 116]⟩ : ByteArray), y103⟩ : S39) [.int .i64 1, .string (⟨#[115, 117, 98, 109, 105, 116]⟩ : ByteArray), .slice Ao3 y103.length co3] from (k39_mkF _ _ (⟨1, (⟨#[115, 117, 98, 109, 105, 116]⟩ : ByteArray), y103⟩ : S39) (Kd.R_reads' (Kd.R_mono (ok' := (fun k_ => (w.heap.size ≤ k_))) (HO105.out) (fun k_ hk => hk.1.1.1.1.1.1.1.1.1.1))).2.1 (Kd.R_F (Kd.R_mono (ok' := (fun k_ => (w.heap.size ≤ k_))) (HO105.out) (fun k_ hk => hk.1.1.1.1.1.1.1.1.1.1))))) (Reps.c3 (show Kd.FK k39 _ _ (⟨2, (⟨#[99, 97, 110, 99, 101, 108]⟩ : ByteArray), y106⟩ : S39) [.int .i64 2, .string (⟨#[99, 97, 110, 99, 101, 108]⟩ : ByteArray), .slice Ao6 y106.length co6] from (k39_mkF _ _ (⟨2, (⟨#[99, 97, 110, 99, 101, 108]⟩ : ByteArray), y106⟩ : S39) (Kd.R_reads' (Kd.R_mono (ok' := (fun k_ => (w.heap.size ≤ k_))) (HO108.out) (fun k_ hk => hk.1.1.1.1.1.1.1.1.1.1))).2.1 (Kd.R_F (Kd.R_mono (ok' := (fun k_ => (w.heap.size ≤ k_))) (HO108.out) (fun k_ hk => hk.1.1.1.1.1.1.1.1.1.1))))) (Reps.c3 (show Kd.FK k39 _ _ (⟨3, (⟨#[99, 111, 109, 112, 108, 101, 116, 101]⟩ : ByteArray), y109⟩ : S39) [.int .i64 3, .string (⟨#[99, 111, 109, 112, 108, 101, 116, 101]⟩ : ByteArray), .slice Ao9 y109.length co9] from (k39_mkF _ _ (⟨3, (⟨#[99, 111, 109, 112, 108, 101, 116, 101]⟩ : ByteArray), y109⟩ : S39) (Kd.R_reads' (Kd.R_mono (ok' := (fun k_ => (w.heap.size ≤ k_))) (HO111.out) (fun k_ hk => hk.1.1.1.1.1.1.1.1.1.1))).2.1 (Kd.R_F (Kd.R_mono (ok' := (fun k_ => (w.heap.size ≤ k_))) (HO111.out) (fun k_ hk => hk.1.1.1.1.1.1.1.1.1.1))))) (Reps.c3 (show Kd.FK k39 _ _ (⟨4, (⟨#[116, 105, 99, 107]⟩ : ByteArray), y112⟩ : S39) [.int .i64 4, .string (⟨#[116, 105, 99, 107]⟩ : ByteArray), .slice Ao12 y112.length co12] from (k39_mkF _ _ (⟨4, (⟨#[116, 105, 99, 107]⟩ : ByteArray), y112⟩ : S39) (Kd.R_reads' (Kd.R_mono (ok' := (fun k_ => (w.heap.size ≤ k_))) (HO114.out) (fun k_ hk => hk.1.1.1.1.1.1.1.1.1.1))).2.1 (Kd.R_F (Kd.R_mono (ok' := (fun k_ => (w.heap.size ≤ k_))) (HO114.out) (fun k_ hk => hk.1.1.1.1.1.1.1.1.1.1))))) (Reps.c3 (show Kd.FK k39 _ _ (⟨5, (⟨#[97, 99, 99, 111, 117, 110, 116]⟩ : ByteArray), y115⟩ : S39) [.int .i64 5, .string (⟨#[97, 99, 99, 111, 117, 110, 116]⟩ : ByteArray), .slice Ao15 y115.length co15] from (k39_mkF _ _ (⟨5, (⟨#[97, 99, 99, 111, 117, 110, 116]⟩ : ByteArray), y115⟩ : S39) (Kd.R_reads' (Kd.R_mono (ok' := (fun k_ => (w.heap.size ≤ k_))) (HO117.out) (fun k_ hk => hk.1.1.1.1.1.1.1.1.1.1))).2.1 (Kd.R_F (Kd.R_mono (ok' := (fun k_ => (w.heap.size ≤ k_))) (HO117.out) (fun k_ hk => hk.1.1.1.1.1.1.1.1.1.1))))) (Reps.c3 (show Kd.FK k39 _ _ (⟨6, (⟨#[115, 104, 97, 114, 101, 115]⟩ : ByteArray), y118⟩ : S39) [.int .i64 6, .string (⟨#[115, 104, 97, 114, 101, 115]⟩ : ByteArray), .slice Ao18 y118.length co18] from (k39_mkF _ _ (⟨6, (⟨#[115, 104, 97, 114, 101, 115]⟩ : ByteArray), y118⟩ : S39) (Kd.R_reads' (Kd.R_mono (ok' := (fun k_ => (w.heap.size ≤ k_))) (HO120.out) (fun k_ hk => hk.1.1.1.1.1.1.1.1.1.1))).2.1 (Kd.R_F (Kd.R_mono (ok' := (fun k_ => (w.heap.size ≤ k_))) (HO120.out) (fun k_ hk => hk.1.1.1.1.1.1.1.1.1.1))))) (Reps.c3 (show Kd.FK k39 _ _ (⟨7, (⟨#[109, 111, 118, 101]⟩ : ByteArray), y121⟩ : S39) [.int .i64 7, .string (⟨#[109, 111, 118, 101]⟩ : ByteArray), .slice Ao21 y121.length co21] from (k39_mkF _ _ (⟨7, (⟨#[109, 111, 118, 101]⟩ : ByteArray), y121⟩ : S39) (Kd.R_reads' (Kd.R_mono (ok' := (fun k_ => (w.heap.size ≤ k_))) (HO123.out) (fun k_ hk => hk.1.1.1.1.1.1.1.1.1.1))).2.1 (Kd.R_F (Kd.R_mono (ok' := (fun k_ => (w.heap.size ≤ k_))) (HO123.out) (fun k_ hk => hk.1.1.1.1.1.1.1.1.1.1))))) (Reps.c3 (show Kd.FK k39 _ _ (⟨8, (⟨#[99, 108, 111, 115, 101]⟩ : ByteArray), y124⟩ : S39) [.int .i64 8, .string (⟨#[99, 108, 111, 115, 101]⟩ : ByteArray), .slice Ao24 y124.length co24] from (k39_mkF _ _ (⟨8, (⟨#[99, 108, 111, 115, 101]⟩ : ByteArray), y124⟩ : S39) (Kd.R_reads' (Kd.R_mono (ok' := (fun k_ => (w.heap.size ≤ k_))) (HO126.out) (fun k_ hk => hk.1.1.1.1.1.1.1.1.1.1))).2.1 (Kd.R_F (Kd.R_mono (ok' := (fun k_ => (w.heap.size ≤ k_))) (HO126.out) (fun k_ hk => hk.1.1.1.1.1.1.1.1.1.1))))) (Reps.c3 (show Kd.FK k39 _ _ (⟨9, (⟨#[106, 111, 98]⟩ : ByteArray), y127⟩ : S39) [.int .i64 9, .string (⟨#[106, 111, 98]⟩ : ByteArray), .slice Ao27 y127.length co27] from (k39_mkF _ _ (⟨9, (⟨#[106, 111, 98]⟩ : ByteArray), y127⟩ : S39) (Kd.R_reads' (Kd.R_mono (ok' := (fun k_ => (w.heap.size ≤ k_))) (HO129.out) (fun k_ hk => hk.1.1.1.1.1.1.1.1.1.1))).2.1 (Kd.R_F (Kd.R_mono (ok' := (fun k_ => (w.heap.size ≤ k_))) (HO129.out) (fun k_ hk => hk.1.1.1.1.1.1.1.1.1.1))))) (Reps.c3 (show Kd.FK k39 _ _ (⟨10, (⟨#[113, 117, 101, 117, 101]⟩ : ByteArray), ([] : List Int)⟩ : S39) [.int .i64 10, .string (⟨#[113, 117, 101, 117, 101]⟩ : ByteArray), .slice none 0 0] from (k39_mkF _ _ (⟨10, (⟨#[113, 117, 101, 117, 101]⟩ : ByteArray), ([] : List Int)⟩ : S39) (Nat.le_refl _) (Kd.F_nil _ _ _))) (Reps.c3 (show Kd.FK k39 _ _ (⟨11, (⟨#[117, 115, 97, 103, 101]⟩ : ByteArray), y130⟩ : S39) [.int .i64 11, .string (⟨#[117, 115, 97, 103, 101]⟩ : ByteArray), .slice Ao30 y130.length co30] from (k39_mkF _ _ (⟨11, (⟨#[117, 115, 97, 103, 101]⟩ : ByteArray), y130⟩ : S39) (Kd.R_reads' (Kd.R_mono (ok' := (fun k_ => (w.heap.size ≤ k_))) (HO132.out) (fun k_ hk => hk.1.1.1.1.1.1.1.1.1.1))).2.1 (Kd.R_F (Kd.R_mono (ok' := (fun k_ => (w.heap.size ≤ k_))) (HO132.out) (fun k_ hk => hk.1.1.1.1.1.1.1.1.1.1))))) (Reps.c3 (show Kd.FK k39 _ _ (⟨12, (⟨#[110, 111, 100, 101, 115]⟩ : ByteArray), ([] : List Int)⟩ : S39) [.int .i64 12, .string (⟨#[110, 111, 100, 101, 115]⟩ : ByteArray), .slice none 0 0] from (k39_mkF _ _ (⟨12, (⟨#[110, 111, 100, 101, 115]⟩ : ByteArray), ([] : List Int)⟩ : S39) (Nat.le_refl _) (Kd.F_nil _ _ _))) (Reps.c3 (show Kd.FK k39 _ _ (⟨13, (⟨#[99, 111, 110, 102, 105, 103]⟩ : ByteArray), ([] : List Int)⟩ : S39) [.int .i64 13, .string (⟨#[99, 111, 110, 102, 105, 103]⟩ : ByteArray), .slice none 0 0] from (k39_mkF _ _ (⟨13, (⟨#[99, 111, 110, 102, 105, 103]⟩ : ByteArray), ([] : List Int)⟩ : S39) (Nat.le_refl _) (Kd.F_nil _ _ _))) (Reps.none _ _))))))))))))))); intro v134 w31 ho32 hb hg_ hnew_; clear hg_ hnew_; (first | rw [← Ny133.out] at ho32 | (simp only [Int.reduceToNat] at ho32; rw [← Ny133.out] at ho32)); have n0_ := Aside0.mk (Kd.N_lower ho32 (below_size (by repeat (first | (with_reducible first | exact HB.out | apply below_alloc | apply pw_below_drewN | apply below_drew1) | exact HB.out)))); have n1_ := Aside0.mk (below_step (by repeat (first | (with_reducible first | exact HB.out | apply below_alloc | apply pw_below_drewN | apply below_drew1) | exact HB.out)) hb); clear HB; clear HO105; clear HO108; clear HO111; clear HO114; clear HO117; clear HO120; clear HO123; clear HO126; clear HO129; clear HO132; have HO135 := n0_; have HB := n1_; clear n0_ n1_; clear hb ho32))
  go_ret
  exact ⟨_, by first | rfl | (simp [errW_none, errW_some] <;> rfl) | (simp [*, errW_none, errW_some] <;> rfl), by (with_reducible repeat (first | apply Kd.N_alloc | apply Kd.N_drewN | apply Kd.N_drew)); exact HO135.out, by repeat (first | (with_reducible first | exact HB.out | apply below_alloc | apply pw_below_drewN | apply below_drew1) | exact HB.out)⟩

/-! ### verbs_Valid: function 8 -/
mutual
def verbs_Valid.j0 : Nat → ByteArray → Bool → Option (Bool)
  | 0, _, _ => none
  | k + 1, x0, x12 => if x12 = true then (some false) else (verbs_Valid.l0 k x0 (x0.size : Int) 0)
def verbs_Valid.l0 : Nat → ByteArray → Int → Int → Option (Bool)
  | 0, _, _, _ => none
  | k + 1, x0, x14, x15 => if x15 < x14 then (if 0 ≤ x15 then (if x15 < (x0.size : Int) then (if (bt x0 x15) ≥ 97 then (if (bt x0 x15) ≤ 122 then (verbs_Valid.l0 k x0 x14 (wrap64 (x15 + 1))) else (if (bt x0 x15) ≥ 65 then (if (bt x0 x15) ≤ 90 then (verbs_Valid.l0 k x0 x14 (wrap64 (x15 + 1))) else (if (bt x0 x15) ≥ 48 then (if (bt x0 x15) ≤ 57 then (verbs_Valid.l0 k x0 x14 (wrap64 (x15 + 1))) else (if (bt x0 x15) = 45 then (verbs_Valid.l0 k x0 x14 (wrap64 (x15 + 1))) else (if ((bt x0 x15) = 95) then (verbs_Valid.l0 k x0 x14 (wrap64 (x15 + 1))) else (some false)))) else (if (bt x0 x15) = 45 then (verbs_Valid.l0 k x0 x14 (wrap64 (x15 + 1))) else (if ((bt x0 x15) = 95) then (verbs_Valid.l0 k x0 x14 (wrap64 (x15 + 1))) else (some false))))) else (if (bt x0 x15) ≥ 48 then (if (bt x0 x15) ≤ 57 then (verbs_Valid.l0 k x0 x14 (wrap64 (x15 + 1))) else (if (bt x0 x15) = 45 then (verbs_Valid.l0 k x0 x14 (wrap64 (x15 + 1))) else (if ((bt x0 x15) = 95) then (verbs_Valid.l0 k x0 x14 (wrap64 (x15 + 1))) else (some false)))) else (if (bt x0 x15) = 45 then (verbs_Valid.l0 k x0 x14 (wrap64 (x15 + 1))) else (if ((bt x0 x15) = 95) then (verbs_Valid.l0 k x0 x14 (wrap64 (x15 + 1))) else (some false)))))) else (if (bt x0 x15) ≥ 65 then (if (bt x0 x15) ≤ 90 then (verbs_Valid.l0 k x0 x14 (wrap64 (x15 + 1))) else (if (bt x0 x15) ≥ 48 then (if (bt x0 x15) ≤ 57 then (verbs_Valid.l0 k x0 x14 (wrap64 (x15 + 1))) else (if (bt x0 x15) = 45 then (verbs_Valid.l0 k x0 x14 (wrap64 (x15 + 1))) else (if ((bt x0 x15) = 95) then (verbs_Valid.l0 k x0 x14 (wrap64 (x15 + 1))) else (some false)))) else (if (bt x0 x15) = 45 then (verbs_Valid.l0 k x0 x14 (wrap64 (x15 + 1))) else (if ((bt x0 x15) = 95) then (verbs_Valid.l0 k x0 x14 (wrap64 (x15 + 1))) else (some false))))) else (if (bt x0 x15) ≥ 48 then (if (bt x0 x15) ≤ 57 then (verbs_Valid.l0 k x0 x14 (wrap64 (x15 + 1))) else (if (bt x0 x15) = 45 then (verbs_Valid.l0 k x0 x14 (wrap64 (x15 + 1))) else (if ((bt x0 x15) = 95) then (verbs_Valid.l0 k x0 x14 (wrap64 (x15 + 1))) else (some false)))) else (if (bt x0 x15) = 45 then (verbs_Valid.l0 k x0 x14 (wrap64 (x15 + 1))) else (if ((bt x0 x15) = 95) then (verbs_Valid.l0 k x0 x14 (wrap64 (x15 + 1))) else (some false)))))) else (none)) else (none)) else (some true)
end
def verbs_Valid.f (k : Nat) (a0 : ByteArray) : Option (Bool) := if (a0.size : Int) < 1 then (verbs_Valid.j0 k a0 true) else (verbs_Valid.j0 k a0 (decide ((a0.size : Int) > 32)))
theorem verbs_Valid.mono_l : ∀ k, (∀ y0 y1, LeO (verbs_Valid.j0 k y0 y1) (verbs_Valid.j0 (k + 1) y0 y1)) ∧ (∀ y0 y1 y2, LeO (verbs_Valid.l0 k y0 y1 y2) (verbs_Valid.l0 (k + 1) y0 y1 y2))
  | 0 => ⟨fun _ _ r h => by simp [verbs_Valid.j0] at h, fun _ _ _ r h => by simp [verbs_Valid.l0] at h⟩
  | k + 1 => by
    obtain ⟨ih0, ih1⟩ := verbs_Valid.mono_l k
    refine ⟨?_, ?_⟩
    · intro y0 y1
      unfold verbs_Valid.j0
      repeat' first
      | (with_reducible exact ih0 _ _)
      | (with_reducible exact ih1 _ _ _)
      | (with_reducible exact LeO.refl _)
      | (with_reducible exact LeO.none _)
      | (with_reducible refine LeO.ite ?_ ?_)
      | (with_reducible refine LeO.bind ?_ (fun _ => ?_))
      | exact ih0 _ _
      | exact ih1 _ _ _
      | exact LeO.none _
      | refine LeO.ite ?_ ?_
      | refine LeO.bind ?_ (fun _ => ?_)
    · intro y0 y1 y2
      unfold verbs_Valid.l0
      repeat' first
      | (with_reducible exact ih0 _ _)
      | (with_reducible exact ih1 _ _ _)
      | (with_reducible exact LeO.refl _)
      | (with_reducible exact LeO.none _)
      | (with_reducible refine LeO.ite ?_ ?_)
      | (with_reducible refine LeO.bind ?_ (fun _ => ?_))
      | exact ih0 _ _
      | exact ih1 _ _ _
      | exact LeO.none _
      | refine LeO.ite ?_ ?_
      | refine LeO.bind ?_ (fun _ => ?_)
theorem verbs_Valid.mono : ∀ a0 k, LeO (verbs_Valid.f k a0) (verbs_Valid.f (k + 1) a0) := by
  intro a0 k
  obtain ⟨ih0, ih1⟩ := verbs_Valid.mono_l k
  unfold verbs_Valid.f
  repeat' first
      | (with_reducible exact ih0 _ _)
      | (with_reducible exact ih1 _ _ _)
      | (with_reducible exact LeO.refl _)
      | (with_reducible exact LeO.none _)
      | (with_reducible refine LeO.ite ?_ ?_)
      | (with_reducible refine LeO.bind ?_ (fun _ => ?_))
      | exact ih0 _ _
      | exact ih1 _ _ _
      | exact LeO.none _
      | refine LeO.ite ?_ ?_
      | refine LeO.bind ?_ (fun _ => ?_)
set_option maxHeartbeats 8000000 in
set_option maxRecDepth 100000 in
theorem verbs_Valid.calls (k : Nat) (a0 : ByteArray) (r : Bool) (w : World) (h : verbs_Valid.f k a0 = some r) :
    Calls Tryd.prog 8 #[.string a0] w fun e w' => e = .returned (.bool r) ∧ Drawn0 w w' := by
  have H : (if (a0.size : Int) < 1 then (verbs_Valid.j0 k a0 true) else (verbs_Valid.j0 k a0 (decide ((a0.size : Int) > 32)))) = some r := h
  clear h
  have HC2 := Aside0.mk H
  clear H
  go_enter Tryd.func8, Tryd.ntmps8
  go_upto_region 1 with (fail)
  go_cut [12] (fun v12 wc => ∃ (kq : Nat) (x12_1 : Bool), v12 = .bool x12_1 ∧ Aside0 (verbs_Valid.j0 kq a0 x12_1 = some r) ∧ Aside0 (kq ≤ k) ∧ Drawn0 w wc)
  case first =>
    have H := HC2.out
    clear HC2
    by_cases c3 : (a0.size : Int) < 1
    · rw [if_pos c3] at H
      have c3b0 : decide ((a0.size : Int) < 1) = true := decide_eq_true c3
      have c3b1 : decide (a0.size < 1) = true := decide_eq_true (by omega)
      clear c3
      (first | rw [c3b0] | (simp only [i64_w, i32_w]; rw [c3b0]) | skip)
      have H' := Aside0.mk H
      clear H
      go_wp2
      go_meet
      case rel => exact ⟨_, (true), (by first | rfl | (simp; done) | (simp [*]; done)), H', ⟨by first | omega | exact Nat.le_refl _⟩, by repeat (first | exact Drawn0.refl _ | apply Drawn0.step)⟩
    · rw [if_neg c3] at H
      have c3b0 : decide ((a0.size : Int) < 1) = false := decide_eq_false c3
      have c3b1 : decide (a0.size < 1) = false := decide_eq_false (by omega)
      clear c3
      (first | rw [c3b0] | (simp only [i64_w, i32_w]; rw [c3b0]) | skip)
      have H' := Aside0.mk H
      clear H
      go_wp2
      go_meet
      case rel => exact ⟨_, (decide ((a0.size : Int) > 32)), (by first | rfl | (simp; done) | (simp [*]; done)), H', ⟨by first | omega | exact Nat.le_refl _⟩, by repeat (first | exact Drawn0.refl _ | apply Drawn0.step)⟩
  case rest =>
    clear HC2
    try clear p2
    try clear c3
    try clear c3b0
    try clear c3b1
    obtain ⟨kq, x12_1, rfl, HA, HJ1, ⟨mc1, rfl⟩⟩ := hcut
    cases kq with
    | zero => exact absurd HA.out (by simp [verbs_Valid.j0])
    | succ kj1 =>
      have H := HA.out
      clear HA
      simp only [verbs_Valid.j0] at H
      by_cases c4 : x12_1 = true
      · subst c4
        have H1 : (some false) = some r := by rw [if_pos rfl] at H; exact H
        clear H
        have H := H1
        clear H1
        obtain rfl := Option.some.inj H
        go_wp2
        go_ret
        exact ⟨by first | rfl | (simp; done) | (simp [*]; done), by repeat (first | exact Drawn0.refl _ | apply Drawn0.step)⟩
      · replace c4 := Bool.eq_false_iff.mpr c4
        subst c4
        have H1 : (verbs_Valid.l0 kj1 a0 (a0.size : Int) 0) = some r := by rw [if_neg (show ¬ (false = true) by decide)] at H; exact H
        clear H
        have H := H1
        clear H1
        have H' := Aside0.mk H
        clear H
        go_wp2
        go_loopg [15] kj1 (fun kq v15 w' => ∃ (x15_2 : Int), v15 = .int .i64 x15_2 ∧ Aside0 (verbs_Valid.l0 kq a0 (a0.size : Int) x15_2 = some r) ∧ Aside0 (kq ≤ kj1) ∧ Drawn0 w w')
        case atStart => exact ⟨(0), (by first | rfl | (simp; done) | (simp [*]; done)), H', ⟨Nat.le_refl _⟩, by repeat (first | exact Drawn0.refl _ | apply Drawn0.step)⟩
        case round =>
          clear H'
          try clear c1
          try clear p2
          try clear c3
          try clear c3b0
          try clear c3b1
          try clear c4
          try clear p2
          obtain ⟨x15_2, rfl, HA, HK2, ⟨m2, rfl⟩⟩ := hrel
          cases gk with
          | zero => exact absurd HA.out (by simp [verbs_Valid.l0])
          | succ k2 =>
            have H := HA.out
            clear HA
            simp only [verbs_Valid.l0] at H
            by_cases c5 : x15_2 < (a0.size : Int)
            · rw [if_pos c5] at H
              have c5b0 : decide (x15_2 < (a0.size : Int)) = true := decide_eq_true c5
              clear c5
              by_cases c6 : 0 ≤ x15_2
              · rw [if_pos c6] at H
                have c6b0 : decide (0 ≤ x15_2) = true := decide_eq_true c6
                clear c6
                by_cases c7 : x15_2 < (a0.size : Int)
                · rw [if_pos c7] at H
                  have c7b0 : decide (x15_2 < (a0.size : Int)) = true := decide_eq_true c7
                  clear c7
                  by_cases c9 : (bt a0 x15_2) ≥ 97
                  · rw [if_pos c9] at H
                    have c9b0 : decide (97 ≤ (bt a0 x15_2)) = true := decide_eq_true c9
                    clear c9
                    by_cases c10 : (bt a0 x15_2) ≤ 122
                    · rw [if_pos c10] at H
                      have c10b0 : decide ((bt a0 x15_2) ≤ 122) = true := decide_eq_true c10
                      clear c10
                      have H' := Aside0.mk H
                      clear H
                      have p8 : 0 ≤ (x15_2 : Int) := of_decide_eq_true (by first | (with_reducible assumption) | assumption)
                      have q8 : x15_2 < (a0.size : Int) := of_decide_eq_true (by first | (with_reducible assumption) | assumption)
                      have hx8 := bt_at a0 x15_2
                      replace p8 := eq_true p8
                      replace q8 := eq_true q8
                      go_wp2
                      go_roundg k2
                      case measure => have := HJ1.out; have := HK2.out; omega
                      case rel => exact ⟨(wrap64 (x15_2 + 1)), (by first | rfl | (simp; done) | (simp [*]; done)), H', ⟨by have := HJ1.out; have := HK2.out; omega⟩, by repeat (first | exact Drawn0.refl _ | apply Drawn0.step)⟩
                    · rw [if_neg c10] at H
                      have c10b0 : decide ((bt a0 x15_2) ≤ 122) = false := decide_eq_false c10
                      clear c10
                      by_cases c11 : (bt a0 x15_2) ≥ 65
                      · rw [if_pos c11] at H
                        have c11b0 : decide (65 ≤ (bt a0 x15_2)) = true := decide_eq_true c11
                        clear c11
                        by_cases c12 : (bt a0 x15_2) ≤ 90
                        · rw [if_pos c12] at H
                          have c12b0 : decide ((bt a0 x15_2) ≤ 90) = true := decide_eq_true c12
                          clear c12
                          have H' := Aside0.mk H
                          clear H
                          have p8 : 0 ≤ (x15_2 : Int) := of_decide_eq_true (by first | (with_reducible assumption) | assumption)
                          have q8 : x15_2 < (a0.size : Int) := of_decide_eq_true (by first | (with_reducible assumption) | assumption)
                          have hx8 := bt_at a0 x15_2
                          replace p8 := eq_true p8
                          replace q8 := eq_true q8
                          go_wp2
                          go_roundg k2
                          case measure => have := HJ1.out; have := HK2.out; omega
                          case rel => exact ⟨(wrap64 (x15_2 + 1)), (by first | rfl | (simp; done) | (simp [*]; done)), H', ⟨by have := HJ1.out; have := HK2.out; omega⟩, by repeat (first | exact Drawn0.refl _ | apply Drawn0.step)⟩
                        · rw [if_neg c12] at H
                          have c12b0 : decide ((bt a0 x15_2) ≤ 90) = false := decide_eq_false c12
                          clear c12
                          by_cases c13 : (bt a0 x15_2) ≥ 48
                          · rw [if_pos c13] at H
                            have c13b0 : decide (48 ≤ (bt a0 x15_2)) = true := decide_eq_true c13
                            clear c13
                            by_cases c14 : (bt a0 x15_2) ≤ 57
                            · rw [if_pos c14] at H
                              have c14b0 : decide ((bt a0 x15_2) ≤ 57) = true := decide_eq_true c14
                              clear c14
                              have H' := Aside0.mk H
                              clear H
                              have p8 : 0 ≤ (x15_2 : Int) := of_decide_eq_true (by first | (with_reducible assumption) | assumption)
                              have q8 : x15_2 < (a0.size : Int) := of_decide_eq_true (by first | (with_reducible assumption) | assumption)
                              have hx8 := bt_at a0 x15_2
                              replace p8 := eq_true p8
                              replace q8 := eq_true q8
                              go_wp2
                              go_roundg k2
                              case measure => have := HJ1.out; have := HK2.out; omega
                              case rel => exact ⟨(wrap64 (x15_2 + 1)), (by first | rfl | (simp; done) | (simp [*]; done)), H', ⟨by have := HJ1.out; have := HK2.out; omega⟩, by repeat (first | exact Drawn0.refl _ | apply Drawn0.step)⟩
                            · rw [if_neg c14] at H
                              have c14b0 : decide ((bt a0 x15_2) ≤ 57) = false := decide_eq_false c14
                              clear c14
                              by_cases c15 : (bt a0 x15_2) = 45
                              · rw [if_pos c15] at H
                                have c15b0 : ((bt a0 x15_2) == 45) = true := beq_iff_eq.mpr c15
                                have c15b1 : ((bt a0 x15_2) != 45) = false := bne_eq_false_iff_eq.mpr c15
                                clear c15
                                have H' := Aside0.mk H
                                clear H
                                have p8 : 0 ≤ (x15_2 : Int) := of_decide_eq_true (by first | (with_reducible assumption) | assumption)
                                have q8 : x15_2 < (a0.size : Int) := of_decide_eq_true (by first | (with_reducible assumption) | assumption)
                                have hx8 := bt_at a0 x15_2
                                replace p8 := eq_true p8
                                replace q8 := eq_true q8
                                go_wp2
                                go_roundg k2
                                case measure => have := HJ1.out; have := HK2.out; omega
                                case rel => exact ⟨(wrap64 (x15_2 + 1)), (by first | rfl | (simp; done) | (simp [*]; done)), H', ⟨by have := HJ1.out; have := HK2.out; omega⟩, by repeat (first | exact Drawn0.refl _ | apply Drawn0.step)⟩
                              · rw [if_neg c15] at H
                                have c15b0 : ((bt a0 x15_2) == 45) = false := beq_eq_false_iff_ne.mpr c15
                                have c15b1 : ((bt a0 x15_2) != 45) = true := bne_iff_ne.mpr c15
                                by_cases c16 : ((bt a0 x15_2) = 95)
                                · rw [if_pos c16] at H
                                  have c16b0 : ((bt a0 x15_2) == 95) = true := beq_iff_eq.mpr c16
                                  have c16b1 : ((bt a0 x15_2) != 95) = false := bne_eq_false_iff_eq.mpr c16
                                  clear c16
                                  have H' := Aside0.mk H
                                  clear H
                                  have p8 : 0 ≤ (x15_2 : Int) := of_decide_eq_true (by first | (with_reducible assumption) | assumption)
                                  have q8 : x15_2 < (a0.size : Int) := of_decide_eq_true (by first | (with_reducible assumption) | assumption)
                                  have hx8 := bt_at a0 x15_2
                                  replace p8 := eq_true p8
                                  replace q8 := eq_true q8
                                  go_wp2
                                  go_roundg k2
                                  case measure => have := HJ1.out; have := HK2.out; omega
                                  case rel => exact ⟨(wrap64 (x15_2 + 1)), (by first | rfl | (simp; done) | (simp [*]; done)), H', ⟨by have := HJ1.out; have := HK2.out; omega⟩, by repeat (first | exact Drawn0.refl _ | apply Drawn0.step)⟩
                                · rw [if_neg c16] at H
                                  have c16b0 : ((bt a0 x15_2) == 95) = false := beq_eq_false_iff_ne.mpr c16
                                  have c16b1 : ((bt a0 x15_2) != 95) = true := bne_iff_ne.mpr c16
                                  obtain rfl := Option.some.inj H
                                  have p8 : 0 ≤ (x15_2 : Int) := of_decide_eq_true (by first | (with_reducible assumption) | assumption)
                                  have q8 : x15_2 < (a0.size : Int) := of_decide_eq_true (by first | (with_reducible assumption) | assumption)
                                  have hx8 := bt_at a0 x15_2
                                  replace p8 := eq_true p8
                                  replace q8 := eq_true q8
                                  go_wp2
                                  go_ret
                                  exact ⟨by first | rfl | (simp; done) | (simp [*]; done), by repeat (first | exact Drawn0.refl _ | apply Drawn0.step)⟩
                          · rw [if_neg c13] at H
                            have c13b0 : decide (48 ≤ (bt a0 x15_2)) = false := decide_eq_false c13
                            clear c13
                            by_cases c17 : (bt a0 x15_2) = 45
                            · rw [if_pos c17] at H
                              have c17b0 : ((bt a0 x15_2) == 45) = true := beq_iff_eq.mpr c17
                              have c17b1 : ((bt a0 x15_2) != 45) = false := bne_eq_false_iff_eq.mpr c17
                              clear c17
                              have H' := Aside0.mk H
                              clear H
                              have p8 : 0 ≤ (x15_2 : Int) := of_decide_eq_true (by first | (with_reducible assumption) | assumption)
                              have q8 : x15_2 < (a0.size : Int) := of_decide_eq_true (by first | (with_reducible assumption) | assumption)
                              have hx8 := bt_at a0 x15_2
                              replace p8 := eq_true p8
                              replace q8 := eq_true q8
                              go_wp2
                              go_roundg k2
                              case measure => have := HJ1.out; have := HK2.out; omega
                              case rel => exact ⟨(wrap64 (x15_2 + 1)), (by first | rfl | (simp; done) | (simp [*]; done)), H', ⟨by have := HJ1.out; have := HK2.out; omega⟩, by repeat (first | exact Drawn0.refl _ | apply Drawn0.step)⟩
                            · rw [if_neg c17] at H
                              have c17b0 : ((bt a0 x15_2) == 45) = false := beq_eq_false_iff_ne.mpr c17
                              have c17b1 : ((bt a0 x15_2) != 45) = true := bne_iff_ne.mpr c17
                              by_cases c18 : ((bt a0 x15_2) = 95)
                              · rw [if_pos c18] at H
                                have c18b0 : ((bt a0 x15_2) == 95) = true := beq_iff_eq.mpr c18
                                have c18b1 : ((bt a0 x15_2) != 95) = false := bne_eq_false_iff_eq.mpr c18
                                clear c18
                                have H' := Aside0.mk H
                                clear H
                                have p8 : 0 ≤ (x15_2 : Int) := of_decide_eq_true (by first | (with_reducible assumption) | assumption)
                                have q8 : x15_2 < (a0.size : Int) := of_decide_eq_true (by first | (with_reducible assumption) | assumption)
                                have hx8 := bt_at a0 x15_2
                                replace p8 := eq_true p8
                                replace q8 := eq_true q8
                                go_wp2
                                go_roundg k2
                                case measure => have := HJ1.out; have := HK2.out; omega
                                case rel => exact ⟨(wrap64 (x15_2 + 1)), (by first | rfl | (simp; done) | (simp [*]; done)), H', ⟨by have := HJ1.out; have := HK2.out; omega⟩, by repeat (first | exact Drawn0.refl _ | apply Drawn0.step)⟩
                              · rw [if_neg c18] at H
                                have c18b0 : ((bt a0 x15_2) == 95) = false := beq_eq_false_iff_ne.mpr c18
                                have c18b1 : ((bt a0 x15_2) != 95) = true := bne_iff_ne.mpr c18
                                obtain rfl := Option.some.inj H
                                have p8 : 0 ≤ (x15_2 : Int) := of_decide_eq_true (by first | (with_reducible assumption) | assumption)
                                have q8 : x15_2 < (a0.size : Int) := of_decide_eq_true (by first | (with_reducible assumption) | assumption)
                                have hx8 := bt_at a0 x15_2
                                replace p8 := eq_true p8
                                replace q8 := eq_true q8
                                go_wp2
                                go_ret
                                exact ⟨by first | rfl | (simp; done) | (simp [*]; done), by repeat (first | exact Drawn0.refl _ | apply Drawn0.step)⟩
                      · rw [if_neg c11] at H
                        have c11b0 : decide (65 ≤ (bt a0 x15_2)) = false := decide_eq_false c11
                        clear c11
                        by_cases c19 : (bt a0 x15_2) ≥ 48
                        · rw [if_pos c19] at H
                          have c19b0 : decide (48 ≤ (bt a0 x15_2)) = true := decide_eq_true c19
                          clear c19
                          by_cases c20 : (bt a0 x15_2) ≤ 57
                          · rw [if_pos c20] at H
                            have c20b0 : decide ((bt a0 x15_2) ≤ 57) = true := decide_eq_true c20
                            clear c20
                            have H' := Aside0.mk H
                            clear H
                            have p8 : 0 ≤ (x15_2 : Int) := of_decide_eq_true (by first | (with_reducible assumption) | assumption)
                            have q8 : x15_2 < (a0.size : Int) := of_decide_eq_true (by first | (with_reducible assumption) | assumption)
                            have hx8 := bt_at a0 x15_2
                            replace p8 := eq_true p8
                            replace q8 := eq_true q8
                            go_wp2
                            go_roundg k2
                            case measure => have := HJ1.out; have := HK2.out; omega
                            case rel => exact ⟨(wrap64 (x15_2 + 1)), (by first | rfl | (simp; done) | (simp [*]; done)), H', ⟨by have := HJ1.out; have := HK2.out; omega⟩, by repeat (first | exact Drawn0.refl _ | apply Drawn0.step)⟩
                          · rw [if_neg c20] at H
                            have c20b0 : decide ((bt a0 x15_2) ≤ 57) = false := decide_eq_false c20
                            clear c20
                            by_cases c21 : (bt a0 x15_2) = 45
                            · rw [if_pos c21] at H
                              have c21b0 : ((bt a0 x15_2) == 45) = true := beq_iff_eq.mpr c21
                              have c21b1 : ((bt a0 x15_2) != 45) = false := bne_eq_false_iff_eq.mpr c21
                              clear c21
                              have H' := Aside0.mk H
                              clear H
                              have p8 : 0 ≤ (x15_2 : Int) := of_decide_eq_true (by first | (with_reducible assumption) | assumption)
                              have q8 : x15_2 < (a0.size : Int) := of_decide_eq_true (by first | (with_reducible assumption) | assumption)
                              have hx8 := bt_at a0 x15_2
                              replace p8 := eq_true p8
                              replace q8 := eq_true q8
                              go_wp2
                              go_roundg k2
                              case measure => have := HJ1.out; have := HK2.out; omega
                              case rel => exact ⟨(wrap64 (x15_2 + 1)), (by first | rfl | (simp; done) | (simp [*]; done)), H', ⟨by have := HJ1.out; have := HK2.out; omega⟩, by repeat (first | exact Drawn0.refl _ | apply Drawn0.step)⟩
                            · rw [if_neg c21] at H
                              have c21b0 : ((bt a0 x15_2) == 45) = false := beq_eq_false_iff_ne.mpr c21
                              have c21b1 : ((bt a0 x15_2) != 45) = true := bne_iff_ne.mpr c21
                              by_cases c22 : ((bt a0 x15_2) = 95)
                              · rw [if_pos c22] at H
                                have c22b0 : ((bt a0 x15_2) == 95) = true := beq_iff_eq.mpr c22
                                have c22b1 : ((bt a0 x15_2) != 95) = false := bne_eq_false_iff_eq.mpr c22
                                clear c22
                                have H' := Aside0.mk H
                                clear H
                                have p8 : 0 ≤ (x15_2 : Int) := of_decide_eq_true (by first | (with_reducible assumption) | assumption)
                                have q8 : x15_2 < (a0.size : Int) := of_decide_eq_true (by first | (with_reducible assumption) | assumption)
                                have hx8 := bt_at a0 x15_2
                                replace p8 := eq_true p8
                                replace q8 := eq_true q8
                                go_wp2
                                go_roundg k2
                                case measure => have := HJ1.out; have := HK2.out; omega
                                case rel => exact ⟨(wrap64 (x15_2 + 1)), (by first | rfl | (simp; done) | (simp [*]; done)), H', ⟨by have := HJ1.out; have := HK2.out; omega⟩, by repeat (first | exact Drawn0.refl _ | apply Drawn0.step)⟩
                              · rw [if_neg c22] at H
                                have c22b0 : ((bt a0 x15_2) == 95) = false := beq_eq_false_iff_ne.mpr c22
                                have c22b1 : ((bt a0 x15_2) != 95) = true := bne_iff_ne.mpr c22
                                obtain rfl := Option.some.inj H
                                have p8 : 0 ≤ (x15_2 : Int) := of_decide_eq_true (by first | (with_reducible assumption) | assumption)
                                have q8 : x15_2 < (a0.size : Int) := of_decide_eq_true (by first | (with_reducible assumption) | assumption)
                                have hx8 := bt_at a0 x15_2
                                replace p8 := eq_true p8
                                replace q8 := eq_true q8
                                go_wp2
                                go_ret
                                exact ⟨by first | rfl | (simp; done) | (simp [*]; done), by repeat (first | exact Drawn0.refl _ | apply Drawn0.step)⟩
                        · rw [if_neg c19] at H
                          have c19b0 : decide (48 ≤ (bt a0 x15_2)) = false := decide_eq_false c19
                          clear c19
                          by_cases c23 : (bt a0 x15_2) = 45
                          · rw [if_pos c23] at H
                            have c23b0 : ((bt a0 x15_2) == 45) = true := beq_iff_eq.mpr c23
                            have c23b1 : ((bt a0 x15_2) != 45) = false := bne_eq_false_iff_eq.mpr c23
                            clear c23
                            have H' := Aside0.mk H
                            clear H
                            have p8 : 0 ≤ (x15_2 : Int) := of_decide_eq_true (by first | (with_reducible assumption) | assumption)
                            have q8 : x15_2 < (a0.size : Int) := of_decide_eq_true (by first | (with_reducible assumption) | assumption)
                            have hx8 := bt_at a0 x15_2
                            replace p8 := eq_true p8
                            replace q8 := eq_true q8
                            go_wp2
                            go_roundg k2
                            case measure => have := HJ1.out; have := HK2.out; omega
                            case rel => exact ⟨(wrap64 (x15_2 + 1)), (by first | rfl | (simp; done) | (simp [*]; done)), H', ⟨by have := HJ1.out; have := HK2.out; omega⟩, by repeat (first | exact Drawn0.refl _ | apply Drawn0.step)⟩
                          · rw [if_neg c23] at H
                            have c23b0 : ((bt a0 x15_2) == 45) = false := beq_eq_false_iff_ne.mpr c23
                            have c23b1 : ((bt a0 x15_2) != 45) = true := bne_iff_ne.mpr c23
                            by_cases c24 : ((bt a0 x15_2) = 95)
                            · rw [if_pos c24] at H
                              have c24b0 : ((bt a0 x15_2) == 95) = true := beq_iff_eq.mpr c24
                              have c24b1 : ((bt a0 x15_2) != 95) = false := bne_eq_false_iff_eq.mpr c24
                              clear c24
                              have H' := Aside0.mk H
                              clear H
                              have p8 : 0 ≤ (x15_2 : Int) := of_decide_eq_true (by first | (with_reducible assumption) | assumption)
                              have q8 : x15_2 < (a0.size : Int) := of_decide_eq_true (by first | (with_reducible assumption) | assumption)
                              have hx8 := bt_at a0 x15_2
                              replace p8 := eq_true p8
                              replace q8 := eq_true q8
                              go_wp2
                              go_roundg k2
                              case measure => have := HJ1.out; have := HK2.out; omega
                              case rel => exact ⟨(wrap64 (x15_2 + 1)), (by first | rfl | (simp; done) | (simp [*]; done)), H', ⟨by have := HJ1.out; have := HK2.out; omega⟩, by repeat (first | exact Drawn0.refl _ | apply Drawn0.step)⟩
                            · rw [if_neg c24] at H
                              have c24b0 : ((bt a0 x15_2) == 95) = false := beq_eq_false_iff_ne.mpr c24
                              have c24b1 : ((bt a0 x15_2) != 95) = true := bne_iff_ne.mpr c24
                              obtain rfl := Option.some.inj H
                              have p8 : 0 ≤ (x15_2 : Int) := of_decide_eq_true (by first | (with_reducible assumption) | assumption)
                              have q8 : x15_2 < (a0.size : Int) := of_decide_eq_true (by first | (with_reducible assumption) | assumption)
                              have hx8 := bt_at a0 x15_2
                              replace p8 := eq_true p8
                              replace q8 := eq_true q8
                              go_wp2
                              go_ret
                              exact ⟨by first | rfl | (simp; done) | (simp [*]; done), by repeat (first | exact Drawn0.refl _ | apply Drawn0.step)⟩
                  · rw [if_neg c9] at H
                    have c9b0 : decide (97 ≤ (bt a0 x15_2)) = false := decide_eq_false c9
                    clear c9
                    by_cases c25 : (bt a0 x15_2) ≥ 65
                    · rw [if_pos c25] at H
                      have c25b0 : decide (65 ≤ (bt a0 x15_2)) = true := decide_eq_true c25
                      clear c25
                      by_cases c26 : (bt a0 x15_2) ≤ 90
                      · rw [if_pos c26] at H
                        have c26b0 : decide ((bt a0 x15_2) ≤ 90) = true := decide_eq_true c26
                        clear c26
                        have H' := Aside0.mk H
                        clear H
                        have p8 : 0 ≤ (x15_2 : Int) := of_decide_eq_true (by first | (with_reducible assumption) | assumption)
                        have q8 : x15_2 < (a0.size : Int) := of_decide_eq_true (by first | (with_reducible assumption) | assumption)
                        have hx8 := bt_at a0 x15_2
                        replace p8 := eq_true p8
                        replace q8 := eq_true q8
                        go_wp2
                        go_roundg k2
                        case measure => have := HJ1.out; have := HK2.out; omega
                        case rel => exact ⟨(wrap64 (x15_2 + 1)), (by first | rfl | (simp; done) | (simp [*]; done)), H', ⟨by have := HJ1.out; have := HK2.out; omega⟩, by repeat (first | exact Drawn0.refl _ | apply Drawn0.step)⟩
                      · rw [if_neg c26] at H
                        have c26b0 : decide ((bt a0 x15_2) ≤ 90) = false := decide_eq_false c26
                        clear c26
                        by_cases c27 : (bt a0 x15_2) ≥ 48
                        · rw [if_pos c27] at H
                          have c27b0 : decide (48 ≤ (bt a0 x15_2)) = true := decide_eq_true c27
                          clear c27
                          by_cases c28 : (bt a0 x15_2) ≤ 57
                          · rw [if_pos c28] at H
                            have c28b0 : decide ((bt a0 x15_2) ≤ 57) = true := decide_eq_true c28
                            clear c28
                            have H' := Aside0.mk H
                            clear H
                            have p8 : 0 ≤ (x15_2 : Int) := of_decide_eq_true (by first | (with_reducible assumption) | assumption)
                            have q8 : x15_2 < (a0.size : Int) := of_decide_eq_true (by first | (with_reducible assumption) | assumption)
                            have hx8 := bt_at a0 x15_2
                            replace p8 := eq_true p8
                            replace q8 := eq_true q8
                            go_wp2
                            go_roundg k2
                            case measure => have := HJ1.out; have := HK2.out; omega
                            case rel => exact ⟨(wrap64 (x15_2 + 1)), (by first | rfl | (simp; done) | (simp [*]; done)), H', ⟨by have := HJ1.out; have := HK2.out; omega⟩, by repeat (first | exact Drawn0.refl _ | apply Drawn0.step)⟩
                          · rw [if_neg c28] at H
                            have c28b0 : decide ((bt a0 x15_2) ≤ 57) = false := decide_eq_false c28
                            clear c28
                            by_cases c29 : (bt a0 x15_2) = 45
                            · rw [if_pos c29] at H
                              have c29b0 : ((bt a0 x15_2) == 45) = true := beq_iff_eq.mpr c29
                              have c29b1 : ((bt a0 x15_2) != 45) = false := bne_eq_false_iff_eq.mpr c29
                              clear c29
                              have H' := Aside0.mk H
                              clear H
                              have p8 : 0 ≤ (x15_2 : Int) := of_decide_eq_true (by first | (with_reducible assumption) | assumption)
                              have q8 : x15_2 < (a0.size : Int) := of_decide_eq_true (by first | (with_reducible assumption) | assumption)
                              have hx8 := bt_at a0 x15_2
                              replace p8 := eq_true p8
                              replace q8 := eq_true q8
                              go_wp2
                              go_roundg k2
                              case measure => have := HJ1.out; have := HK2.out; omega
                              case rel => exact ⟨(wrap64 (x15_2 + 1)), (by first | rfl | (simp; done) | (simp [*]; done)), H', ⟨by have := HJ1.out; have := HK2.out; omega⟩, by repeat (first | exact Drawn0.refl _ | apply Drawn0.step)⟩
                            · rw [if_neg c29] at H
                              have c29b0 : ((bt a0 x15_2) == 45) = false := beq_eq_false_iff_ne.mpr c29
                              have c29b1 : ((bt a0 x15_2) != 45) = true := bne_iff_ne.mpr c29
                              by_cases c30 : ((bt a0 x15_2) = 95)
                              · rw [if_pos c30] at H
                                have c30b0 : ((bt a0 x15_2) == 95) = true := beq_iff_eq.mpr c30
                                have c30b1 : ((bt a0 x15_2) != 95) = false := bne_eq_false_iff_eq.mpr c30
                                clear c30
                                have H' := Aside0.mk H
                                clear H
                                have p8 : 0 ≤ (x15_2 : Int) := of_decide_eq_true (by first | (with_reducible assumption) | assumption)
                                have q8 : x15_2 < (a0.size : Int) := of_decide_eq_true (by first | (with_reducible assumption) | assumption)
                                have hx8 := bt_at a0 x15_2
                                replace p8 := eq_true p8
                                replace q8 := eq_true q8
                                go_wp2
                                go_roundg k2
                                case measure => have := HJ1.out; have := HK2.out; omega
                                case rel => exact ⟨(wrap64 (x15_2 + 1)), (by first | rfl | (simp; done) | (simp [*]; done)), H', ⟨by have := HJ1.out; have := HK2.out; omega⟩, by repeat (first | exact Drawn0.refl _ | apply Drawn0.step)⟩
                              · rw [if_neg c30] at H
                                have c30b0 : ((bt a0 x15_2) == 95) = false := beq_eq_false_iff_ne.mpr c30
                                have c30b1 : ((bt a0 x15_2) != 95) = true := bne_iff_ne.mpr c30
                                obtain rfl := Option.some.inj H
                                have p8 : 0 ≤ (x15_2 : Int) := of_decide_eq_true (by first | (with_reducible assumption) | assumption)
                                have q8 : x15_2 < (a0.size : Int) := of_decide_eq_true (by first | (with_reducible assumption) | assumption)
                                have hx8 := bt_at a0 x15_2
                                replace p8 := eq_true p8
                                replace q8 := eq_true q8
                                go_wp2
                                go_ret
                                exact ⟨by first | rfl | (simp; done) | (simp [*]; done), by repeat (first | exact Drawn0.refl _ | apply Drawn0.step)⟩
                        · rw [if_neg c27] at H
                          have c27b0 : decide (48 ≤ (bt a0 x15_2)) = false := decide_eq_false c27
                          clear c27
                          by_cases c31 : (bt a0 x15_2) = 45
                          · rw [if_pos c31] at H
                            have c31b0 : ((bt a0 x15_2) == 45) = true := beq_iff_eq.mpr c31
                            have c31b1 : ((bt a0 x15_2) != 45) = false := bne_eq_false_iff_eq.mpr c31
                            clear c31
                            have H' := Aside0.mk H
                            clear H
                            have p8 : 0 ≤ (x15_2 : Int) := of_decide_eq_true (by first | (with_reducible assumption) | assumption)
                            have q8 : x15_2 < (a0.size : Int) := of_decide_eq_true (by first | (with_reducible assumption) | assumption)
                            have hx8 := bt_at a0 x15_2
                            replace p8 := eq_true p8
                            replace q8 := eq_true q8
                            go_wp2
                            go_roundg k2
                            case measure => have := HJ1.out; have := HK2.out; omega
                            case rel => exact ⟨(wrap64 (x15_2 + 1)), (by first | rfl | (simp; done) | (simp [*]; done)), H', ⟨by have := HJ1.out; have := HK2.out; omega⟩, by repeat (first | exact Drawn0.refl _ | apply Drawn0.step)⟩
                          · rw [if_neg c31] at H
                            have c31b0 : ((bt a0 x15_2) == 45) = false := beq_eq_false_iff_ne.mpr c31
                            have c31b1 : ((bt a0 x15_2) != 45) = true := bne_iff_ne.mpr c31
                            by_cases c32 : ((bt a0 x15_2) = 95)
                            · rw [if_pos c32] at H
                              have c32b0 : ((bt a0 x15_2) == 95) = true := beq_iff_eq.mpr c32
                              have c32b1 : ((bt a0 x15_2) != 95) = false := bne_eq_false_iff_eq.mpr c32
                              clear c32
                              have H' := Aside0.mk H
                              clear H
                              have p8 : 0 ≤ (x15_2 : Int) := of_decide_eq_true (by first | (with_reducible assumption) | assumption)
                              have q8 : x15_2 < (a0.size : Int) := of_decide_eq_true (by first | (with_reducible assumption) | assumption)
                              have hx8 := bt_at a0 x15_2
                              replace p8 := eq_true p8
                              replace q8 := eq_true q8
                              go_wp2
                              go_roundg k2
                              case measure => have := HJ1.out; have := HK2.out; omega
                              case rel => exact ⟨(wrap64 (x15_2 + 1)), (by first | rfl | (simp; done) | (simp [*]; done)), H', ⟨by have := HJ1.out; have := HK2.out; omega⟩, by repeat (first | exact Drawn0.refl _ | apply Drawn0.step)⟩
                            · rw [if_neg c32] at H
                              have c32b0 : ((bt a0 x15_2) == 95) = false := beq_eq_false_iff_ne.mpr c32
                              have c32b1 : ((bt a0 x15_2) != 95) = true := bne_iff_ne.mpr c32
                              obtain rfl := Option.some.inj H
                              have p8 : 0 ≤ (x15_2 : Int) := of_decide_eq_true (by first | (with_reducible assumption) | assumption)
                              have q8 : x15_2 < (a0.size : Int) := of_decide_eq_true (by first | (with_reducible assumption) | assumption)
                              have hx8 := bt_at a0 x15_2
                              replace p8 := eq_true p8
                              replace q8 := eq_true q8
                              go_wp2
                              go_ret
                              exact ⟨by first | rfl | (simp; done) | (simp [*]; done), by repeat (first | exact Drawn0.refl _ | apply Drawn0.step)⟩
                    · rw [if_neg c25] at H
                      have c25b0 : decide (65 ≤ (bt a0 x15_2)) = false := decide_eq_false c25
                      clear c25
                      by_cases c33 : (bt a0 x15_2) ≥ 48
                      · rw [if_pos c33] at H
                        have c33b0 : decide (48 ≤ (bt a0 x15_2)) = true := decide_eq_true c33
                        clear c33
                        by_cases c34 : (bt a0 x15_2) ≤ 57
                        · rw [if_pos c34] at H
                          have c34b0 : decide ((bt a0 x15_2) ≤ 57) = true := decide_eq_true c34
                          clear c34
                          have H' := Aside0.mk H
                          clear H
                          have p8 : 0 ≤ (x15_2 : Int) := of_decide_eq_true (by first | (with_reducible assumption) | assumption)
                          have q8 : x15_2 < (a0.size : Int) := of_decide_eq_true (by first | (with_reducible assumption) | assumption)
                          have hx8 := bt_at a0 x15_2
                          replace p8 := eq_true p8
                          replace q8 := eq_true q8
                          go_wp2
                          go_roundg k2
                          case measure => have := HJ1.out; have := HK2.out; omega
                          case rel => exact ⟨(wrap64 (x15_2 + 1)), (by first | rfl | (simp; done) | (simp [*]; done)), H', ⟨by have := HJ1.out; have := HK2.out; omega⟩, by repeat (first | exact Drawn0.refl _ | apply Drawn0.step)⟩
                        · rw [if_neg c34] at H
                          have c34b0 : decide ((bt a0 x15_2) ≤ 57) = false := decide_eq_false c34
                          clear c34
                          by_cases c35 : (bt a0 x15_2) = 45
                          · rw [if_pos c35] at H
                            have c35b0 : ((bt a0 x15_2) == 45) = true := beq_iff_eq.mpr c35
                            have c35b1 : ((bt a0 x15_2) != 45) = false := bne_eq_false_iff_eq.mpr c35
                            clear c35
                            have H' := Aside0.mk H
                            clear H
                            have p8 : 0 ≤ (x15_2 : Int) := of_decide_eq_true (by first | (with_reducible assumption) | assumption)
                            have q8 : x15_2 < (a0.size : Int) := of_decide_eq_true (by first | (with_reducible assumption) | assumption)
                            have hx8 := bt_at a0 x15_2
                            replace p8 := eq_true p8
                            replace q8 := eq_true q8
                            go_wp2
                            go_roundg k2
                            case measure => have := HJ1.out; have := HK2.out; omega
                            case rel => exact ⟨(wrap64 (x15_2 + 1)), (by first | rfl | (simp; done) | (simp [*]; done)), H', ⟨by have := HJ1.out; have := HK2.out; omega⟩, by repeat (first | exact Drawn0.refl _ | apply Drawn0.step)⟩
                          · rw [if_neg c35] at H
                            have c35b0 : ((bt a0 x15_2) == 45) = false := beq_eq_false_iff_ne.mpr c35
                            have c35b1 : ((bt a0 x15_2) != 45) = true := bne_iff_ne.mpr c35
                            by_cases c36 : ((bt a0 x15_2) = 95)
                            · rw [if_pos c36] at H
                              have c36b0 : ((bt a0 x15_2) == 95) = true := beq_iff_eq.mpr c36
                              have c36b1 : ((bt a0 x15_2) != 95) = false := bne_eq_false_iff_eq.mpr c36
                              clear c36
                              have H' := Aside0.mk H
                              clear H
                              have p8 : 0 ≤ (x15_2 : Int) := of_decide_eq_true (by first | (with_reducible assumption) | assumption)
                              have q8 : x15_2 < (a0.size : Int) := of_decide_eq_true (by first | (with_reducible assumption) | assumption)
                              have hx8 := bt_at a0 x15_2
                              replace p8 := eq_true p8
                              replace q8 := eq_true q8
                              go_wp2
                              go_roundg k2
                              case measure => have := HJ1.out; have := HK2.out; omega
                              case rel => exact ⟨(wrap64 (x15_2 + 1)), (by first | rfl | (simp; done) | (simp [*]; done)), H', ⟨by have := HJ1.out; have := HK2.out; omega⟩, by repeat (first | exact Drawn0.refl _ | apply Drawn0.step)⟩
                            · rw [if_neg c36] at H
                              have c36b0 : ((bt a0 x15_2) == 95) = false := beq_eq_false_iff_ne.mpr c36
                              have c36b1 : ((bt a0 x15_2) != 95) = true := bne_iff_ne.mpr c36
                              obtain rfl := Option.some.inj H
                              have p8 : 0 ≤ (x15_2 : Int) := of_decide_eq_true (by first | (with_reducible assumption) | assumption)
                              have q8 : x15_2 < (a0.size : Int) := of_decide_eq_true (by first | (with_reducible assumption) | assumption)
                              have hx8 := bt_at a0 x15_2
                              replace p8 := eq_true p8
                              replace q8 := eq_true q8
                              go_wp2
                              go_ret
                              exact ⟨by first | rfl | (simp; done) | (simp [*]; done), by repeat (first | exact Drawn0.refl _ | apply Drawn0.step)⟩
                      · rw [if_neg c33] at H
                        have c33b0 : decide (48 ≤ (bt a0 x15_2)) = false := decide_eq_false c33
                        clear c33
                        by_cases c37 : (bt a0 x15_2) = 45
                        · rw [if_pos c37] at H
                          have c37b0 : ((bt a0 x15_2) == 45) = true := beq_iff_eq.mpr c37
                          have c37b1 : ((bt a0 x15_2) != 45) = false := bne_eq_false_iff_eq.mpr c37
                          clear c37
                          have H' := Aside0.mk H
                          clear H
                          have p8 : 0 ≤ (x15_2 : Int) := of_decide_eq_true (by first | (with_reducible assumption) | assumption)
                          have q8 : x15_2 < (a0.size : Int) := of_decide_eq_true (by first | (with_reducible assumption) | assumption)
                          have hx8 := bt_at a0 x15_2
                          replace p8 := eq_true p8
                          replace q8 := eq_true q8
                          go_wp2
                          go_roundg k2
                          case measure => have := HJ1.out; have := HK2.out; omega
                          case rel => exact ⟨(wrap64 (x15_2 + 1)), (by first | rfl | (simp; done) | (simp [*]; done)), H', ⟨by have := HJ1.out; have := HK2.out; omega⟩, by repeat (first | exact Drawn0.refl _ | apply Drawn0.step)⟩
                        · rw [if_neg c37] at H
                          have c37b0 : ((bt a0 x15_2) == 45) = false := beq_eq_false_iff_ne.mpr c37
                          have c37b1 : ((bt a0 x15_2) != 45) = true := bne_iff_ne.mpr c37
                          by_cases c38 : ((bt a0 x15_2) = 95)
                          · rw [if_pos c38] at H
                            have c38b0 : ((bt a0 x15_2) == 95) = true := beq_iff_eq.mpr c38
                            have c38b1 : ((bt a0 x15_2) != 95) = false := bne_eq_false_iff_eq.mpr c38
                            clear c38
                            have H' := Aside0.mk H
                            clear H
                            have p8 : 0 ≤ (x15_2 : Int) := of_decide_eq_true (by first | (with_reducible assumption) | assumption)
                            have q8 : x15_2 < (a0.size : Int) := of_decide_eq_true (by first | (with_reducible assumption) | assumption)
                            have hx8 := bt_at a0 x15_2
                            replace p8 := eq_true p8
                            replace q8 := eq_true q8
                            go_wp2
                            go_roundg k2
                            case measure => have := HJ1.out; have := HK2.out; omega
                            case rel => exact ⟨(wrap64 (x15_2 + 1)), (by first | rfl | (simp; done) | (simp [*]; done)), H', ⟨by have := HJ1.out; have := HK2.out; omega⟩, by repeat (first | exact Drawn0.refl _ | apply Drawn0.step)⟩
                          · rw [if_neg c38] at H
                            have c38b0 : ((bt a0 x15_2) == 95) = false := beq_eq_false_iff_ne.mpr c38
                            have c38b1 : ((bt a0 x15_2) != 95) = true := bne_iff_ne.mpr c38
                            obtain rfl := Option.some.inj H
                            have p8 : 0 ≤ (x15_2 : Int) := of_decide_eq_true (by first | (with_reducible assumption) | assumption)
                            have q8 : x15_2 < (a0.size : Int) := of_decide_eq_true (by first | (with_reducible assumption) | assumption)
                            have hx8 := bt_at a0 x15_2
                            replace p8 := eq_true p8
                            replace q8 := eq_true q8
                            go_wp2
                            go_ret
                            exact ⟨by first | rfl | (simp; done) | (simp [*]; done), by repeat (first | exact Drawn0.refl _ | apply Drawn0.step)⟩
                · rw [if_neg c7] at H
                  exact absurd H (by simp)
              · rw [if_neg c6] at H
                exact absurd H (by simp)
            · rw [if_neg c5] at H
              have c5b0 : decide (x15_2 < (a0.size : Int)) = false := decide_eq_false c5
              clear c5
              obtain rfl := Option.some.inj H
              go_wp2
              go_ret
              exact ⟨by first | rfl | (simp; done) | (simp [*]; done), by repeat (first | exact Drawn0.refl _ | apply Drawn0.step)⟩

end Go.Proofs.YtamimpomeigllaaDoor.PVerbsReads
