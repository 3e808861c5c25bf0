/- Own text: the world's facts that the library's calls want; Itoa, Atoi, Split; answers.numbers and the reference's digits. -/
import Derived.Test.YtokioddaonknpaaDoorF2
import Derived.Test.YtokioddaonknpaaDoorShelf
import Derived.Lib.LaidTab
import Derived.Deep.QuietTactic
import Derived.BigQuiet
import Derived.Outline
import Derived.Lib.AtoiAllCases
namespace Go.Proofs.YtokioddaonknpaaDoor.A
open Go.RowKit Go.Proofs.YtokioddaonknpaaDoorW.PrintWords Go.Proofs.YtokioddaonknpaaDoor.PAnswersReads
set_option linter.unusedSimpArgs false

/-- What the library's variables hold. -/
structure Env (w : World) : Prop where
  n8 : 8 ≤ w.heap.size
  ml : ∃ m, w.cell? ⟨0, 0, none⟩ = some (.int .i64 m)
  tab : Lib.TabIs Tryd.prog w "internal/strconv.uint64pow10" .u64 Lib.pow10Tab
  syn : ∃ tp p, w.var? Tryd.prog "strconv.ErrSyntax" = some #[.iface tp p]
  rng : ∃ tp p, w.var? Tryd.prog "strconv.ErrRange" = some #[.iface tp p]
theorem var_keep {g : Nat} {w w' : World} {n : String} {cs : Array Value} (hg : Tryd.prog.globalNamed n = some g) (h : w'.heap[g]? = w.heap[g]?) (hv : w.var? Tryd.prog n = some cs) : w'.var? Tryd.prog n = some cs := by
  unfold World.var? at *
  simp only [hg, Option.bind_some] at hv ⊢
  rw [h]; exact hv
theorem gSyn : Tryd.prog.globalNamed "strconv.ErrSyntax" = some 1 := by kernel_rfl
theorem gRng : Tryd.prog.globalNamed "strconv.ErrRange" = some 2 := by kernel_rfl
theorem gTab : Tryd.prog.globalNamed "internal/strconv.uint64pow10" = some 3 := by kernel_rfl
theorem Env.keep {w w' : World} (h : Env w) (hs : w.heap.size ≤ w'.heap.size) (hb : ∀ k, k < 8 → w'.heap[k]? = w.heap[k]?) : Env w' := by
  obtain ⟨m, hm⟩ := h.ml
  obtain ⟨t1, p1, h1⟩ := h.syn
  obtain ⟨t2, p2, h2⟩ := h.rng
  exact ⟨Nat.le_trans h.n8 hs, ⟨m, (World.cell?_of_block (hb 0 (by omega))).trans hm⟩, var_keep gTab (hb 3 (by omega)) h.tab, ⟨t1, p1, var_keep gSyn (hb 1 (by omega)) h1⟩, ⟨t2, p2, var_keep gRng (hb 2 (by omega)) h2⟩⟩
theorem Env.below {w w' : World} (h : Env w) {B : Nat} (hB : 8 ≤ B) (hb : Below B w w') : Env w' := h.keep hb.size (fun k hk => hb.block k (by omega))
theorem Env.step {w w' : World} (h : Env w) (hb : Below w.heap.size w w') : Env w' := h.below h.n8 hb

theorem itoa_any (n : Int) (hn : Rng n) (w : World) (hE : Env w) :
    Calls Tryd.prog 42 #[.int .i64 n] w fun e w' => e = .returned (.string (ofL (Lib.itoa n))) ∧ Below w.heap.size w w' := by
  refine (Tryd.strconv_Itoa n hn.1 hn.2 w hE.tab).mono ?_
  rintro e w' ⟨rfl, k, os, rfl⟩
  exact ⟨rfl, ⟨rfl, rfl, rfl, by rw [Sort.size_grow]; exact Nat.le_add_right _ _, fun i hi => Sort.heap_grow_old (w.drewN k) os hi⟩⟩
/-- strconv.Atoi, all three ways: the number, and whether there is an error -/
def AtoiPost (s : ByteArray) (w : World) (e : Ending) (w' : World) : Prop :=
  Below w.heap.size w w' ∧ ((∃ v, Lib.atoiAll s.data.toList = .ok v ∧ e = .returned (.tuple #[.int .i64 v, .nilIface])) ∨ (∃ N x, (∀ v, Lib.atoiAll s.data.toList ≠ .ok v) ∧ e = .returned (.tuple #[.int .i64 x, .iface 106 (.pointer (some ⟨N, 0, none⟩))])))
theorem atoi_any (s : ByteArray) (hs : s.size ≤ 281474976710656) (w : World) (hE : Env w) : Calls Tryd.prog 47 #[.string s] w (AtoiPost s w) := by
  cases h : Lib.atoiAll s.data.toList with
  | ok v =>
    refine (Tryd.strconv_Atoi_ok s (by omega) v h w).mono ?_
    rintro e w' ⟨rfl, hw⟩
    refine ⟨?_, .inl ⟨v, h, rfl⟩⟩
    rcases hw with rfl | ⟨t, rfl⟩
    · exact Below.refl _ _
    · exact bytes_below (Below.refl _ _) (Nat.le_refl _) _ _
  | range =>
    obtain ⟨tp, p, hv⟩ := hE.rng
    refine (Tryd.strconv_Atoi_range_var s hs h tp p w hv).mono ?_
    rintro e w' ⟨N, rfl, _, _, hb⟩
    exact ⟨hb, .inr ⟨N, _, by simp [h], rfl⟩⟩
  | _ =>
    obtain ⟨tp, p, hv⟩ := hE.syn
    refine (Any.strconv_Atoi_syntax_var Tryd.laysC172 s hs h tp p w hv).mono ?_
    rintro e w' ⟨N, rfl, _, _, hb⟩
    exact ⟨hb, .inr ⟨N, _, by simp [h], rfl⟩⟩

theorem wds_len (s : ByteArray) : (wds s).length = Lib.countB s ⟨#[32]⟩ + 1 := by
  have := Lib.splitB_all ⟨#[32]⟩ (by decide) 0 _ s rfl
  rw [splitB_splA _ s rfl, List.length_map] at this
  exact this
/-- strings.Split at a blank. -/
theorem split_any (s : ByteArray) (hs : s.size < 4294967281) (w : World) (hE : Env w) :
    Calls Tryd.prog 24 #[.string s, .string ⟨#[32]⟩] w fun e w' => ∃ g, e = .returned (.slice (some ⟨g, 0, none⟩) ((wds s).map ofL).length ((wds s).map ofL).length) ∧ w.heap.size ≤ g ∧ g < w'.heap.size ∧ Kd.C Kd.string w' (some ⟨g, 0, none⟩) ((wds s).map ofL).length ((wds s).map ofL) ∧ Below w.heap.size w w' := by
  obtain ⟨m, hm⟩ := hE.ml
  refine (Tryd.strings_Split s ⟨#[32]⟩ m w hs hm (by decide)).mono ?_
  rintro e w' ⟨rfl, rfl⟩
  refine ⟨w.heap.size, by rw [List.length_map, wds_len], Nat.le_refl _, by simp, ?_, (Below.refl _ _).alloc (Nat.le_refl _) _⟩
  refine Kd.C_of_reads (d := (⟨#[]⟩ : ByteArray)) ⟨rfl, ?_, fun h => ⟨_, rfl, fun j hj => ?_⟩⟩
  · have := Lib.countB_le ⟨#[32]⟩ (by decide) s.size s (Nat.le_refl _)
    rw [List.length_map, wds_len]
    omega
  · rw [splitB_splA _ s rfl]
    rw [add_plain]
    refine (cell_of_row _ _ j _ _ _ (heap_alloc_new w _)).trans ?_
    have hj' : j < ((splA [] s.data.toList).map ofL).length := hj
    simp [wds, List.getD_eq_getElem?_getD, List.getElem?_map] at hj' ⊢
    rw [List.getElem?_eq_getElem hj']
    exact ⟨_, rfl, rfl⟩

end Go.Proofs.YtokioddaonknpaaDoor.A
