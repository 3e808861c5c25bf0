/- Own text, merged (merge.py): the builder; Check and Print at the document's examples. -/
import Derived.Test.YtokioddaonknpaaDoorShelf2
import Derived.Test.YtokioddaonknpaaDoorE14
import Derived.Lib.Builder
import Derived.Lib.AppendStr
import Derived.Deep.MidRow

namespace Go.Proofs.YtokioddaonknpaaDoor.A
open Go.RowKit Go.Proofs.YtokioddaonknpaaDoorW.PrintWords Go.Proofs.YtokioddaonknpaaDoor.PAnswersReads
set_option linter.unusedSimpArgs false

theorem sizeB : (Tryd.prog.info? 65).map (·.size) = some 2 := by kernel_rfl
theorem liesB : liesAt Tryd.prog Tryd.prog.depth 65 (2 / Tryd.prog.cellsOf 65) 0 65 1 = true := by kernel_rfl

set_option maxHeartbeats 1000000 in
set_option maxRecDepth 100000 in
theorem copyCheck_used (b : Nat) (w : World) (h0 : w.cell? ⟨b, 0, none⟩ = some (.pointer (some ⟨b, 0, none⟩))) :
    Calls Tryd.prog 49 #[.pointer (some ⟨b, 0, none⟩)] w fun e w' => e = .returned (.tuple #[]) ∧ w' = w := by
  obtain ⟨j, hj, _⟩ := Option.map_eq_some_iff.1 sizeB
  go_enter Tryd.func49, Tryd.ntmps49
  go_wp2
  rw [Lib.run_neq_ptr_same w _ Tryd.underlying63 hj]
  go_wp2
  go_end0
  exact ⟨rfl, rfl⟩

set_option maxHeartbeats 1000000 in
set_option maxRecDepth 100000 in
theorem copyCheck_fresh (b : Nat) (w : World) (h0 : w.cell? ⟨b, 0, none⟩ = some (.pointer none)) (hsh : w.shape? b = some (65, 2)) (hfz : w.frozen? ⟨b, 0, none⟩ = false) :
    Calls Tryd.prog 49 #[.pointer (some ⟨b, 0, none⟩)] w fun e w' => e = .returned (.tuple #[]) ∧ w' = w.setCell ⟨b, 0, none⟩ (.pointer (some ⟨b, 0, none⟩)) := by
  obtain ⟨j, hj, hjs⟩ := Option.map_eq_some_iff.1 sizeB
  go_enter Tryd.func49, Tryd.ntmps49
  go_wp2
  rw [Lib.run_to_unsafe w ⟨b, 0, none⟩ Tryd.underlying63 Tryd.underlying97 hj (by rw [hjs]; decide) hsh (Nat.zero_lt_succ 1)]
  simp only [Result.andThen]
  rw [Oper.upon_value]
  go_wp2
  rw [run_callFunc_extern Tryd.func63 (by kernel_rfl) (by kernel_rfl) (by kernel_rfl) (e := Extern.AbiNoEscape.same) (by kernel_rfl)]
  rw [Lib.run_noEscape]
  simp only [Result.andThen]
  rw [Oper.upon_value]
  go_wp2
  rw [Lib.run_from_unsafe w ⟨b, 0, none⟩ Tryd.underlying97 Tryd.underlying63 hj hsh liesB]
  simp only [Result.andThen]
  rw [Oper.upon_value]
  go_wp2
  go_end0
  exact ⟨rfl, rfl⟩
theorem copyCheck_any (B b : Nat) (bs : List Value) (w : World) (h : Lib.IsBuilder 65 5 B b bs w) :
    Calls Tryd.prog 49 #[.pointer (some ⟨b, 0, none⟩)] w fun e w' => e = .returned (.tuple #[]) ∧ (Lib.BuilderAt 65 5 B b (.pointer (some ⟨b, 0, none⟩)) bs w' ∧ Below B w w') := by
  rcases h with h | h
  · refine (copyCheck_fresh b w h.cell0 h.shape h.frozen0).mono ?_
    rintro e w' ⟨rfl, rfl⟩
    exact ⟨rfl, h.used _, (Below.refl B w).setCell (p := ⟨b, 0, none⟩) h.1 _⟩
  · refine (copyCheck_used b w h.cell0).mono ?_
    rintro e w' ⟨rfl, rfl⟩
    exact ⟨rfl, h, Below.refl B _⟩
theorem info5 : (Tryd.prog.info? 5).map (fun i => (i.zero, i.size, i.bytes)) = some (some (.int .u8 0), 1, 1) := by kernel_rfl
theorem neB5 : (65 : TypeId) ≠ 5 := by decide

set_option maxHeartbeats 1000000 in
set_option maxRecDepth 100000 in
theorem writeString_any (B b : Nat) (bs : List Value) (s : ByteArray) (w : World) (h : Lib.IsBuilder 65 5 B b bs w) (hlen : bs.length + s.size ≤ 140737488355328) (hBw : B ≤ w.heap.size) :
    Calls Tryd.prog 31 #[.pointer (some ⟨b, 0, none⟩), .string s] w fun e w' => e = .returned (.tuple #[.int .i64 s.size, .nilIface]) ∧ (Lib.BuilderAt 65 5 B b (.pointer (some ⟨b, 0, none⟩)) (bs ++ Lib.strCells s) w' ∧ Below B w w') := by
  obtain ⟨i0, hi, hzz⟩ := Option.map_eq_some_iff.1 info5
  simp only [Prod.mk.injEq] at hzz
  obtain ⟨hz0, hz1, hz2⟩ := hzz
  have HC := Lib.hid (copyCheck_any B b bs w h)
  clear h
  go_enter Tryd.func31, Tryd.ntmps31
  go_wp2_with (go_at_call 49; refine HC.out.mono ?_; rintro e w1 ⟨rfl, h1, hb1⟩; refine Hid.out ?_)
  refine Lib.hid ?_
  obtain ⟨hB, v, hbk, hown, hne⟩ := h1
  have c0 : w1.cell? ⟨b, 0, none⟩ = some (.pointer (some ⟨b, 0, none⟩)) := by rw [Lib.cell_of_heap hbk]; rfl
  have c1 : w1.cell? ⟨b, 1, none⟩ = some v := by rw [Lib.cell_of_heap hbk]; rfl
  go_wp2_with (at_builtin; refine Lib.wpList_append_own_string _ rfl _ _ 45 9 rfl B 5 i0 Tryd.underlying45 Tryd.underlying9 hi hz0 hz1 hz2 _ _ _ rfl hown s rfl ?c3 ?c4 ?c5 ?_)
  case c3 => unfold maxLen; omega
  case c4 => omega
  case c5 => have := hb1.size; omega
  intro v' w2 hown' hgrow _
  have hlt : b < w1.heap.size := by
    rcases Nat.lt_or_ge b w1.heap.size with h' | h'
    · exact h'
    · simp [Array.getElem?_eq_none h'] at hbk
  have hb2 : w2.heap[b]? = some (.cells #[.pointer (some ⟨b, 0, none⟩), v] 65 (0, 0)) := by
    rw [hgrow.block b hlt (fun e => hne e.symm)]
    exact hbk
  have d0 : w2.cell? ⟨b, 0, none⟩ = some (.pointer (some ⟨b, 0, none⟩)) := by rw [Lib.cell_of_heap hb2]; rfl
  have d1 : w2.cell? ⟨b, 1, none⟩ = some v := by rw [Lib.cell_of_heap hb2]; rfl
  have f1 : w2.frozen? ⟨b, 1, none⟩ = false := Lib.frozen_of_heap hb2 1
  obtain ⟨ao, n', cap, rfl⟩ : ∃ ao n' cap, v' = .slice ao n' cap := by
    rcases hown'.2 with ⟨hv, _⟩ | ⟨g, cap, cur, hv, _⟩
    · exact ⟨_, _, _, hv⟩
    · exact ⟨_, _, _, hv⟩
  go_wp2
  go_ret2
  refine ⟨rfl, ?_, ?_⟩
  · exact Lib.BuilderAt.put (T := 65) (e := 5) hB hb2 (bs' := bs ++ Lib.strCells s) (by simpa [Lib.strCells_length] using hown') neB5
  · exact (hb1.grown hgrow (by have := hb1.size; omega) (fun k hk => (hown.lt k hk).1)).setCell (p := ⟨b, 1, none⟩) hB _
end Go.Proofs.YtokioddaonknpaaDoor.A

namespace Go.Proofs.YtokioddaonknpaaDoor.A
open Go.RowKit Go.Proofs.YtokioddaonknpaaDoorW.PrintWords Go.Proofs.YtokioddaonknpaaDoor.PAnswersReads
set_option linter.unusedSimpArgs false
set_option linter.unusedVariables false

/-- An answer with just what the two examples hold: Free and Holder. -/
def aC (fr ho : Int) : Array Value := #[.int .i64 0, .int .i64 0, .slice none 0 0, .int .i64 0, .int .i64 0, .int .i64 0, .int .i64 0, .int .i64 0, .int .i64 0, .int .i64 0, .slice none 0 0, .slice none 0 0, .int .i64 0, .int .u64 0, .int .u64 0, .int .i64 fr, .int .i64 ho, .int .i64 0, .int .i64 0, .int .i64 0, .int .i64 0, .int .i64 0, .int .i64 0, .int .i64 0, .int .i64 0, .int .i64 0, .int .i64 0]
def IsAns (w : World) (b : Nat) (fr ho : Int) : Prop := w.heap[b]? = some (.cells (aC fr ho) 42 (0, 0))
theorem ans_cells {w : World} {b : Nat} {fr ho : Int} (h : IsAns w b fr ho) : w.cell? ⟨b, 0, none⟩ = some (.int .i64 0) ∧ w.cell? ⟨b, 1, none⟩ = some (.int .i64 0) ∧ w.cell? ⟨b, 2, none⟩ = some (.slice none 0 0) ∧ w.cell? ⟨b, 3, none⟩ = some (.int .i64 0) ∧ w.cell? ⟨b, 4, none⟩ = some (.int .i64 0) ∧ w.cell? ⟨b, 5, none⟩ = some (.int .i64 0) ∧ w.cell? ⟨b, 6, none⟩ = some (.int .i64 0) ∧ w.cell? ⟨b, 7, none⟩ = some (.int .i64 0) ∧ w.cell? ⟨b, 8, none⟩ = some (.int .i64 0) ∧ w.cell? ⟨b, 9, none⟩ = some (.int .i64 0) ∧ w.cell? ⟨b, 10, none⟩ = some (.slice none 0 0) ∧ w.cell? ⟨b, 11, none⟩ = some (.slice none 0 0) ∧ w.cell? ⟨b, 12, none⟩ = some (.int .i64 0) ∧ w.cell? ⟨b, 13, none⟩ = some (.int .u64 0) ∧ w.cell? ⟨b, 14, none⟩ = some (.int .u64 0) ∧ w.cell? ⟨b, 15, none⟩ = some (.int .i64 fr) ∧ w.cell? ⟨b, 16, none⟩ = some (.int .i64 ho) ∧ w.cell? ⟨b, 17, none⟩ = some (.int .i64 0) ∧ w.cell? ⟨b, 18, none⟩ = some (.int .i64 0) ∧ w.cell? ⟨b, 19, none⟩ = some (.int .i64 0) ∧ w.cell? ⟨b, 20, none⟩ = some (.int .i64 0) ∧ w.cell? ⟨b, 21, none⟩ = some (.int .i64 0) ∧ w.cell? ⟨b, 22, none⟩ = some (.int .i64 0) ∧ w.cell? ⟨b, 23, none⟩ = some (.int .i64 0) ∧ w.cell? ⟨b, 24, none⟩ = some (.int .i64 0) ∧ w.cell? ⟨b, 25, none⟩ = some (.int .i64 0) ∧ w.cell? ⟨b, 26, none⟩ = some (.int .i64 0) ∧ ∀ j, w.frozen? ⟨b, j, none⟩ = false :=
  ⟨blk_cell h 0, blk_cell h 1, blk_cell h 2, blk_cell h 3, blk_cell h 4, blk_cell h 5, blk_cell h 6, blk_cell h 7, blk_cell h 8, blk_cell h 9, blk_cell h 10, blk_cell h 11, blk_cell h 12, blk_cell h 13, blk_cell h 14, blk_cell h 15, blk_cell h 16, blk_cell h 17, blk_cell h 18, blk_cell h 19, blk_cell h 20, blk_cell h 21, blk_cell h 22, blk_cell h 23, blk_cell h 24, blk_cell h 25, blk_cell h 26, fun j => blk_frozen h j⟩
theorem ans_below {w w' : World} {b : Nat} {fr ho : Int} (h : IsAns w b fr ho) (hg : Below w.heap.size w w') : IsAns w' b fr ho := by
  unfold IsAns at h ⊢
  rw [hg.block b (blk_lt h)]
  exact h
theorem alloc_ans {w : World} {n : Nat} (h : w.heap.size = n) (fr ho : Int) : IsAns (w.alloc (.cells (aC fr ho) 42)) n fr ho := by
  subst h
  exact heap_alloc_new w _
/-- Cells written over, one by one. -/
def putL (w : World) (b : Nat) : Nat → List Value → World
  | _, [] => w
  | i, v :: l => putL (w.setCell ⟨b, i, none⟩ v) b (i + 1) l
def setL (a : Array Value) : Nat → List Value → Array Value
  | _, [] => a
  | i, v :: l => setL (a.setIfInBounds i v) (i + 1) l
theorem putL_blk (b : Nat) : ∀ (l : List Value) (w : World) (i : Nat) (a : Array Value), w.heap[b]? = some (.cells a 42 (0, 0)) → (putL w b i l).heap[b]? = some (.cells (setL a i l) 42 (0, 0))
  | [], _, _, _, h => h
  | v :: l, w, i, a, h => putL_blk b l _ (i + 1) _ (blk_set h i v)
theorem putL_below {w0 : World} {B b : Nat} (hb : B ≤ b) : ∀ (l : List Value) (w : World) (i : Nat), Below B w0 w → Below B w0 (putL w b i l)
  | [], _, _, h => h
  | v :: l, w, i, h => putL_below hb l _ (i + 1) (h.setCell (p := ⟨b, i, none⟩) hb v)
theorem setL_all : ∀ (l pre rest : List Value), rest.length = l.length → setL (pre ++ rest).toArray pre.length l = (pre ++ l).toArray
  | [], pre, rest, h => by
    have : rest = [] := List.eq_nil_of_length_eq_zero h
    subst this
    rfl
  | v :: l, pre, [], h => by simp at h
  | v :: l, pre, r :: rest, h => by
    have e : (pre ++ r :: rest).toArray.setIfInBounds pre.length v = ((pre ++ [v]) ++ rest).toArray := by simp
    have h1 := setL_all l (pre ++ [v]) rest (by simpa using h)
    unfold setL
    rw [e]
    simp at h1 ⊢
    exact h1
def put27 (w : World) (b : Nat) (fr ho : Int) : World := putL w b 0 (aC fr ho).toList
theorem putL_set (b : Nat) : ∀ (l : List Value) (w : World) (i : Nat), w.setCells b i l = putL w b i l
  | [], _, _ => rfl
  | _ :: l, _, i => putL_set b l _ (i + 1)
theorem info42 : (Tryd.prog.info? 42).map (·.size) = some 27 := by kernel_rfl
theorem rng_ans {w : World} {b : Nat} {fr ho : Int} (h : IsAns w b fr ho) : w.rangeAt b 0 (aC fr ho).toList := fun j v hv => by
  rw [Nat.zero_add, blk_cell h j, ← Array.getElem?_toList]
  exact hv
theorem there_ans {w : World} {b : Nat} {fr ho : Int} (h : IsAns w b fr ho) : w.there b 0 27 := fun j hj => by
  rw [Nat.zero_add]
  refine ⟨?_, blk_frozen h j⟩
  rw [blk_cell h j, Array.getElem?_eq_getElem (show j < (aC fr ho).size from hj)]
  rfl
theorem one_ans (fr ho : Int) : (aC fr ho).all (·.oneCell') = true := by simp [aC, Value.oneCell']
theorem put27_ans {w : World} {b : Nat} {f0 h0 : Int} (h : IsAns w b f0 h0) (fr ho : Int) : IsAns (put27 w b fr ho) b fr ho := by
  have h1 := putL_blk b (aC fr ho).toList w 0 _ h
  have h2 : setL (aC f0 h0) 0 (aC fr ho).toList = aC fr ho := setL_all (aC fr ho).toList [] (aC f0 h0).toList rfl
  rw [h2] at h1
  exact h1
theorem put27_below {w0 w : World} {B b : Nat} (h : Below B w0 w) (hb : B ≤ b) (fr ho : Int) : Below B w0 (put27 w b fr ho) := putL_below hb _ w 0 h
theorem setc_ans {w : World} {b : Nat} {f0 h0 : Int} (h : IsAns w b f0 h0) (fr ho : Int) : IsAns (w.setCells b 0 (aC fr ho).toList) b fr ho := by
  rw [putL_set]
  exact put27_ans h fr ho
theorem setc_below {w0 w : World} {B b : Nat} (h : Below B w0 w) (hb : B ≤ b) (l : List Value) : Below B w0 (w.setCells b 0 l) := by
  rw [putL_set]
  exact putL_below hb _ w 0 h

set_option maxHeartbeats 8000000 in
set_option maxRecDepth 100000 in
theorem has_no (k : Int) (h1 : (k == 1) = false) (h2 : (k == 2) = false) (h3 : (k == 3) = false) (h4 : (k == 4) = false) (w : World) : Calls Tryd.prog 36 #[.int .i64 k] w fun e w' => e = .returned (.bool false) ∧ w' = w := by
  go_enter Tryd.func36, Tryd.ntmps36
  go_wp2
  go_ret
  exact ⟨rfl, rfl⟩

set_option maxHeartbeats 8000000 in
set_option maxRecDepth 100000 in
theorem bare0 (w : World) : Calls Tryd.prog 55 #[.agg #[.int .i64 0, .int .i64 0, .int .i64 0, .int .i64 0, .int .i64 0, .int .i64 0, .int .i64 0, .slice none 0 0]] w fun e w' => e = .returned (.bool true) ∧ Below w.heap.size w w' := by
  go_enter Tryd.func55, Tryd.ntmps55
  go_wp2
  go_ret
  exact ⟨rfl, below_alloc (Below.refl _ _) _⟩

set_option maxHeartbeats 8000000 in
set_option maxRecDepth 100000 in
theorem blank0 (w : World) : Calls Tryd.prog 38 #[.agg #[.int .i64 0, .int .i64 0, .slice none 0 0, .int .i64 0, .int .i64 0, .int .i64 0, .int .i64 0, .int .i64 0, .int .i64 0, .int .i64 0, .slice none 0 0, .slice none 0 0, .int .i64 0, .int .u64 0, .int .u64 0, .int .i64 0, .int .i64 0, .int .i64 0, .int .i64 0, .int .i64 0, .int .i64 0, .int .i64 0, .int .i64 0, .int .i64 0, .int .i64 0, .int .i64 0, .int .i64 0]] w fun e w' => e = .returned (.bool true) ∧ Below w.heap.size w w' := by
  have HA := Aside0.mk (alloc_ans (w := w) rfl 0 0)
  have HB := Aside0.mk ((Below.refl w.heap.size w).alloc (Nat.le_refl _) (.cells (aC 0 0) 42))
  go_enter Tryd.func38, Tryd.ntmps38
  go_wp2_with (go_at_call 55; refine (bare0 _).mono ?_; rintro x w1 ⟨rfl, hb1⟩; refine Hid.out ?_)
  refine Lib.hid ?_
  have HA1 := Aside0.mk (ans_below HA.out hb1)
  have HB1 := Aside0.mk (HB.out.trans (hb1.mono HB.out.size))
  obtain ⟨a0, a1, a2, a3, a4, a5, a6, a7, a8, a9, a10, a11, a12, a13, a14, a15, a16, a17, a18, a19, a20, a21, a22, a23, a24, a25, a26, af⟩ := ans_cells HA1.out
  clear hb1 HA HB
  go_wp2
  go_ret
  exact ⟨rfl, HB1.out⟩

end Go.Proofs.YtokioddaonknpaaDoor.A

namespace Go.Proofs.YtokioddaonknpaaDoor.A
open Go.RowKit Go.Proofs.YtokioddaonknpaaDoorW.PrintWords Go.Proofs.YtokioddaonknpaaDoor.PAnswersReads
set_option linter.unusedSimpArgs false
set_option linter.unusedVariables false

theorem close_rest {R : Ending → World → Prop} {w' : World} {b : Nat} {fr ho : Int} {a : Act} (hd : a.defers = []) (hp : a.tmps[4]?.getD undef = .pointer (some ⟨b, 0, none⟩)) (hA : IsAns w' b fr ho)
    (hR : R (.returned (.agg (aC fr ho))) w') : bodyPost Tryd.prog Tryd.f39 R .ret a w' := by
  refine bodyPost_ret (v := .agg (aC fr ho)) ?_ hd hR
  have hl := run_loadVar_mid w' b 0 42 (aC fr ho).toList _ (rng_ans hA) Tryd.underlying42 rfl info42
  simp only [results, Tryd.results39]
  simp [hp, hl, asAddr]

set_option maxHeartbeats 8000000 in
set_option maxRecDepth 100000 in
theorem rest_10 (w : World) : Calls Tryd.prog 39 #[.int .i64 10, .agg #[.int .i64 0, .int .i64 0, .slice none 0 0, .int .i64 0, .int .i64 0, .int .i64 0, .int .i64 0, .int .i64 0, .int .i64 0, .int .i64 0, .slice none 0 0, .slice none 0 0, .int .i64 0, .int .u64 0, .int .u64 0, .int .i64 0, .int .i64 (-1), .int .i64 0, .int .i64 0, .int .i64 0, .int .i64 0, .int .i64 0, .int .i64 0, .int .i64 0, .int .i64 0, .int .i64 0, .int .i64 0]] w fun e w' => e = .returned (.agg (aC 0 0)) ∧ Below w.heap.size w w' := by
  have HN := Lib.hid (fun W => has_no 10 rfl rfl rfl rfl W)
  go_enter Tryd.func39, Tryd.ntmps39
  have HA := Aside0.mk (show IsAns ((w.alloc (.cells (aC 0 0) 42)).alloc (.cells (aC 0 0) 42)) w.heap.size 0 0 from ans_below (alloc_ans (w := w) rfl 0 0) ((Below.refl _ _).alloc (Nat.le_refl _) (.cells (aC 0 0) 42)))
  have HR := Aside0.mk (show IsAns ((w.alloc (.cells (aC 0 0) 42)).alloc (.cells (aC 0 0) 42)) (w.heap.size + 1) 0 0 from alloc_ans (w := w.alloc (.cells (aC 0 0) 42)) (by simp) 0 0)
  have HB := Aside0.mk (below_alloc (below_alloc (Below.refl w.heap.size w) (.cells (aC 0 0) 42)) (.cells (aC 0 0) 42))
  go_wp2_with (first
    | (go_at_call 36; refine (HN.out _).mono ?_; rintro x w1 ⟨rfl, rfl⟩)
    | (refine wpList_load_mid ?hg 42 (.tmp 3) ?ho w.heap.size 0 ?hx (aC 0 0).toList _ ?hc Tryd.underlying42 ?hd info42 ?_; (case ho => with_reducible rfl); (case hg => rfl); (case hx => rfl); (case hd => rfl); (case hc => exact rng_ans HA.out))
    | (refine wpList_store_mid ?hg 42 (.tmp 4) (.tmp 35) ?ho (w.heap.size + 1) 0 (aC 0 0) ?hx ?hy ?ht info42 (one_ans 0 0) ?_; (case ho => with_reducible rfl); (case hg => rfl); (case hx => rfl); (case hy => rfl); (case ht => exact there_ans HR.out)))
  exact close_rest (b := w.heap.size + 1) rfl rfl (setc_ans HR.out 0 0) ⟨rfl, setc_below HB.out (by omega) _⟩

set_option maxHeartbeats 8000000 in
set_option maxRecDepth 100000 in
theorem rest_12 (w : World) : Calls Tryd.prog 39 #[.int .i64 12, .agg #[.int .i64 0, .int .i64 0, .slice none 0 0, .int .i64 0, .int .i64 0, .int .i64 0, .int .i64 0, .int .i64 0, .int .i64 0, .int .i64 0, .slice none 0 0, .slice none 0 0, .int .i64 0, .int .u64 0, .int .u64 0, .int .i64 3, .int .i64 0, .int .i64 0, .int .i64 0, .int .i64 0, .int .i64 0, .int .i64 0, .int .i64 0, .int .i64 0, .int .i64 0, .int .i64 0, .int .i64 0]] w fun e w' => e = .returned (.agg (aC 0 0)) ∧ Below w.heap.size w w' := by
  have HN := Lib.hid (fun W => has_no 12 rfl rfl rfl rfl W)
  go_enter Tryd.func39, Tryd.ntmps39
  have HA := Aside0.mk (show IsAns ((w.alloc (.cells (aC 0 0) 42)).alloc (.cells (aC 0 0) 42)) w.heap.size 0 0 from ans_below (alloc_ans (w := w) rfl 0 0) ((Below.refl _ _).alloc (Nat.le_refl _) (.cells (aC 0 0) 42)))
  have HR := Aside0.mk (show IsAns ((w.alloc (.cells (aC 0 0) 42)).alloc (.cells (aC 0 0) 42)) (w.heap.size + 1) 0 0 from alloc_ans (w := w.alloc (.cells (aC 0 0) 42)) (by simp) 0 0)
  have HB := Aside0.mk (below_alloc (below_alloc (Below.refl w.heap.size w) (.cells (aC 0 0) 42)) (.cells (aC 0 0) 42))
  go_wp2_with (first
    | (go_at_call 36; refine (HN.out _).mono ?_; rintro x w1 ⟨rfl, rfl⟩)
    | (refine wpList_load_mid ?hg 42 (.tmp 3) ?ho w.heap.size 0 ?hx (aC 0 0).toList _ ?hc Tryd.underlying42 ?hd info42 ?_; (case ho => with_reducible rfl); (case hg => rfl); (case hx => rfl); (case hd => rfl); (case hc => exact rng_ans HA.out))
    | (refine wpList_store_mid ?hg 42 (.tmp 4) (.tmp 35) ?ho (w.heap.size + 1) 0 (aC 0 0) ?hx ?hy ?ht info42 (one_ans 0 0) ?_; (case ho => with_reducible rfl); (case hg => rfl); (case hx => rfl); (case hy => rfl); (case ht => exact there_ans HR.out)))
  exact close_rest (b := w.heap.size + 1) rfl rfl (setc_ans HR.out 0 0) ⟨rfl, setc_below HB.out (by omega) _⟩

theorem exit_gen {E : Exit → Act → World → Prop} {e : Exit} {a : Act} {w0 : World} (h : ∀ W, W = w0 → E e a W) : E e a w0 := h w0 rfl
theorem blk_below {w w' : World} {b : Nat} {o : Obj} (h : w.heap[b]? = some o) (hg : Below w.heap.size w w') : w'.heap[b]? = some o := (hg.block b (blk_lt h)).trans h
theorem blk_at {w : World} {n : Nat} (h : w.heap.size = n) (o : Obj) : (w.alloc o).heap[n]? = some o := by
  subst h
  exact blk_new w o
def IsCfg (w : World) (b : Nat) : Prop := w.heap[b]? = some (.cells #[.int .i64 0, .int .i64 0, .int .i64 0, .int .i64 0, .int .i64 0, .int .i64 0, .int .i64 0, .int .i64 0] 40)
theorem cfg_cells {w : World} {b : Nat} (h : IsCfg w b) : w.cell? ⟨b, 0, none⟩ = some (.int .i64 0) ∧ w.cell? ⟨b, 1, none⟩ = some (.int .i64 0) ∧ w.cell? ⟨b, 2, none⟩ = some (.int .i64 0) ∧ w.cell? ⟨b, 3, none⟩ = some (.int .i64 0) ∧ w.cell? ⟨b, 4, none⟩ = some (.int .i64 0) ∧ w.cell? ⟨b, 5, none⟩ = some (.int .i64 0) ∧ w.cell? ⟨b, 6, none⟩ = some (.int .i64 0) ∧ w.cell? ⟨b, 7, none⟩ = some (.int .i64 0) :=
  ⟨blk_cell h 0, blk_cell h 1, blk_cell h 2, blk_cell h 3, blk_cell h 4, blk_cell h 5, blk_cell h 6, blk_cell h 7⟩

end Go.Proofs.YtokioddaonknpaaDoor.A

namespace Go.Proofs.YtokioddaonknpaaDoor.A
open Go.RowKit Go.Proofs.YtokioddaonknpaaDoorW.PrintWords Go.Proofs.YtokioddaonknpaaDoor.PAnswersReads
set_option linter.unusedSimpArgs false
set_option linter.unusedVariables false

set_option maxHeartbeats 8000000 in
set_option maxRecDepth 100000 in
theorem check_10 (w : World) : Calls Tryd.prog 15 #[.int .i64 10, .agg #[.int .i64 0, .int .i64 0, .slice none 0 0, .int .i64 0, .int .i64 0, .int .i64 0, .int .i64 0, .int .i64 0, .int .i64 0, .int .i64 0, .slice none 0 0, .slice none 0 0, .int .i64 0, .int .u64 0, .int .u64 0, .int .i64 0, .int .i64 (-1), .int .i64 0, .int .i64 0, .int .i64 0, .int .i64 0, .int .i64 0, .int .i64 0, .int .i64 0, .int .i64 0, .int .i64 0, .int .i64 0]] w fun e w' => e = .returned (.int .i64 0) ∧ Below w.heap.size w w' := by
  have HR39 := Lib.hid (fun W => rest_10 W)
  have HR38 := Lib.hid (fun W => (blank0 W : Calls Tryd.prog 38 #[.agg (aC 0 0)] W _))
  have HG5 := Lib.hid (fun W A (hC : Kd.C (Kd.int .i64) W A 5 [0, 0, 0, 0, 0]) => answers_signs.calls 6 A 5 [0, 0, 0, 0, 0] true W hC (Nat.le_refl _) (signs_f _ (by decide) 6 (by decide)))
  have HG8 := Lib.hid (fun W A (hC : Kd.C (Kd.int .i64) W A 8 [0, 0, 0, 0, 0, 0, 0, 0]) => answers_signs.calls 9 A 8 [0, 0, 0, 0, 0, 0, 0, 0] true W hC (Nat.le_refl _) (signs_f _ (by decide) 9 (by decide)))
  go_enter Tryd.func15, Tryd.ntmps15
  go_wp2_with (fail)
  go_region
  · refine exit_gen ?_
    intro W hW
    have HA := Aside0.mk (show IsAns W w.heap.size 0 (-1) by rw [hW]; exact ans_below (ans_below (ans_below (alloc_ans (w := w) rfl 0 (-1)) ((Below.refl _ _).alloc (Nat.le_refl _) (.cells #[.int .i64 0, .int .i64 0, .int .i64 0, .int .i64 0, .int .i64 0, .int .i64 0, .int .i64 0, .slice none 0 0] 36))) ((Below.refl _ _).alloc (Nat.le_refl _) (.cells #[.int .i64 0, .int .i64 0, .int .i64 0, .int .i64 0, .int .i64 0, .int .i64 0, .int .i64 0, .int .i64 0] 40))) (below_drew (Below.refl _ _)))
    have HB := Aside0.mk (show Below w.heap.size w W by rw [hW]; exact below_drew (below_alloc (below_alloc (below_alloc (Below.refl _ w) _) _) _))
    have HCF := Aside0.mk (show IsCfg W (w.heap.size + 1 + 1) by rw [hW]; exact blk_below (blk_at (w := (w.alloc (.cells (aC 0 (-1)) 42)).alloc (.cells #[.int .i64 0, .int .i64 0, .int .i64 0, .int .i64 0, .int .i64 0, .int .i64 0, .int .i64 0, .slice none 0 0] 36)) (by simp) (.cells #[.int .i64 0, .int .i64 0, .int .i64 0, .int .i64 0, .int .i64 0, .int .i64 0, .int .i64 0, .int .i64 0] 40)) (below_drew (Below.refl _ _)))
    clear hW
    go_wp2_with (first
      | (refine wpList_load_mid ?hg 42 (.tmp 3) ?ho w.heap.size 0 ?hx (aC 0 (-1)).toList _ ?hc Tryd.underlying42 ?hd info42 ?_; (case ho => with_reducible rfl); (case hg => rfl); (case hx => rfl); (case hd => rfl); (case hc => exact rng_ans HA.out))
      | (go_at_call 39; refine (HR39.out _).mono ?_; rintro x w2 ⟨rfl, hb2⟩; replace HA := Aside0.mk (ans_below HA.out hb2); replace HB := Aside0.mk (HB.out.trans (hb2.mono HB.out.size)); replace HCF := Aside0.mk (blk_below HCF.out hb2); clear hb2; refine Hid.out ?_))
    refine Lib.hid ?_
    go_wp2_with (go_at_call 38; refine (HR38.out _).mono ?_; rintro x w3 ⟨rfl, hb2⟩; replace HA := Aside0.mk (ans_below HA.out hb2); replace HB := Aside0.mk (HB.out.trans (hb2.mono HB.out.size)); replace HCF := Aside0.mk (blk_below HCF.out hb2); clear hb2; refine Hid.out ?_)
    refine Lib.hid ?_
    obtain ⟨_, a1, a2, _, _, _, _, _, _, _, _, a11, a12, _, _, a15, a16, a17, _, _, _, _, _, _, _, _, a26, _⟩ := ans_cells HA.out
    obtain ⟨f0, f1, f2, f3, f4, f5, f6, f7⟩ := cfg_cells HCF.out
    go_wp2_with (go_at_call 40; refine Calls.mono (HG5.out _ _ ?cc) ?_; (case cc => exact fresh_C [0, 0, 0, 0, 0] (by decide) _ _); rintro x w4 ⟨rfl, hd4⟩; have hb2 := below_step (below_alloc (Below.refl _ w3) _) (rdrawn_below hd4); clear hd4; refine Hid.out ?_)
    refine Lib.hid ?_
    clear a1 a2 a11 a12 a15 a16 a17 a26 f0 f1 f2 f3 f4 f5 f6 f7
    replace HA := Aside0.mk (ans_below HA.out hb2); replace HB := Aside0.mk (HB.out.trans (hb2.mono HB.out.size)); replace HCF := Aside0.mk (blk_below HCF.out hb2); clear hb2
    obtain ⟨_, a1, a2, _, _, _, _, _, _, _, _, a11, a12, _, _, a15, a16, a17, _, _, _, _, _, _, _, _, a26, _⟩ := ans_cells HA.out
    obtain ⟨f0, f1, f2, f3, f4, f5, f6, f7⟩ := cfg_cells HCF.out
    go_wp2_with (go_at_call 40; refine Calls.mono (HG8.out _ _ ?cc) ?_; (case cc => exact fresh_C [0, 0, 0, 0, 0, 0, 0, 0] (by decide) _ _); rintro x w5 ⟨rfl, hd4⟩; have hb2 := below_step (below_alloc (Below.refl _ w4) _) (rdrawn_below hd4); clear hd4; refine Hid.out ?_)
    refine Lib.hid ?_
    clear a1 a2 a11 a12 a15 a16 a17 a26 f0 f1 f2 f3 f4 f5 f6 f7
    replace HA := Aside0.mk (ans_below HA.out hb2); replace HB := Aside0.mk (HB.out.trans (hb2.mono HB.out.size)); replace HCF := Aside0.mk (blk_below HCF.out hb2); clear hb2 HCF
    obtain ⟨_, a1, a2, _, _, _, _, _, _, _, _, a11, a12, _, _, a15, a16, a17, _, _, _, _, _, _, _, _, a26, _⟩ := ans_cells HA.out
    go_wp2_with (fail)
    go_loopw [7, 114] (fun ov iv wx => ov = .bool true ∧ iv = .int .i64 0 ∧ wx = w5) (fun _ _ _ => 0)
    case atStart => exact ⟨rfl, rfl, rfl⟩
    case round =>
      obtain ⟨rfl, rfl, rfl⟩ := hrel
      go_wp2
      go_loopw [7, 131] (fun ov iv wx => ov = .bool true ∧ iv = .int .i64 0 ∧ wx = wr) (fun _ _ _ => 0)
      case atStart => exact ⟨rfl, rfl, rfl⟩
      case round =>
        obtain ⟨rfl, rfl, rfl⟩ := hrel
        go_wp2
        go_ret
        exact ⟨rfl, HB.out⟩
  · refine exit_gen ?_
    intro W hW
    have HA := Aside0.mk (show IsAns W w.heap.size 0 (-1) by rw [hW]; exact ans_below (ans_below (ans_below (alloc_ans (w := w) rfl 0 (-1)) ((Below.refl _ _).alloc (Nat.le_refl _) (.cells #[.int .i64 0, .int .i64 0, .int .i64 0, .int .i64 0, .int .i64 0, .int .i64 0, .int .i64 0, .int .i64 0] 40))) ((Below.refl _ _).alloc (Nat.le_refl _) (.cells #[.int .i64 0, .int .i64 0, .int .i64 0, .int .i64 0, .int .i64 0, .int .i64 0, .int .i64 0, .slice none 0 0] 36))) (below_drew (Below.refl _ _)))
    have HB := Aside0.mk (show Below w.heap.size w W by rw [hW]; exact below_drew (below_alloc (below_alloc (below_alloc (Below.refl _ w) _) _) _))
    have HCF := Aside0.mk (show IsCfg W (w.heap.size + 1) by rw [hW]; exact blk_below (blk_below (blk_at (w := w.alloc (.cells (aC 0 (-1)) 42)) (by simp) (.cells #[.int .i64 0, .int .i64 0, .int .i64 0, .int .i64 0, .int .i64 0, .int .i64 0, .int .i64 0, .int .i64 0] 40)) ((Below.refl _ _).alloc (Nat.le_refl _) (.cells #[.int .i64 0, .int .i64 0, .int .i64 0, .int .i64 0, .int .i64 0, .int .i64 0, .int .i64 0, .slice none 0 0] 36))) (below_drew (Below.refl _ _)))
    clear hW
    go_wp2_with (first
      | (refine wpList_load_mid ?hg 42 (.tmp 3) ?ho w.heap.size 0 ?hx (aC 0 (-1)).toList _ ?hc Tryd.underlying42 ?hd info42 ?_; (case ho => with_reducible rfl); (case hg => rfl); (case hx => rfl); (case hd => rfl); (case hc => exact rng_ans HA.out))
      | (go_at_call 39; refine (HR39.out _).mono ?_; rintro x w2 ⟨rfl, hb2⟩; replace HA := Aside0.mk (ans_below HA.out hb2); replace HB := Aside0.mk (HB.out.trans (hb2.mono HB.out.size)); replace HCF := Aside0.mk (blk_below HCF.out hb2); clear hb2; refine Hid.out ?_))
    refine Lib.hid ?_
    go_wp2_with (go_at_call 38; refine (HR38.out _).mono ?_; rintro x w3 ⟨rfl, hb2⟩; replace HA := Aside0.mk (ans_below HA.out hb2); replace HB := Aside0.mk (HB.out.trans (hb2.mono HB.out.size)); replace HCF := Aside0.mk (blk_below HCF.out hb2); clear hb2; refine Hid.out ?_)
    refine Lib.hid ?_
    obtain ⟨_, a1, a2, _, _, _, _, _, _, _, _, a11, a12, _, _, a15, a16, a17, _, _, _, _, _, _, _, _, a26, _⟩ := ans_cells HA.out
    obtain ⟨f0, f1, f2, f3, f4, f5, f6, f7⟩ := cfg_cells HCF.out
    go_wp2_with (go_at_call 40; refine Calls.mono (HG5.out _ _ ?cc) ?_; (case cc => exact fresh_C [0, 0, 0, 0, 0] (by decide) _ _); rintro x w4 ⟨rfl, hd4⟩; have hb2 := below_step (below_alloc (Below.refl _ w3) _) (rdrawn_below hd4); clear hd4; refine Hid.out ?_)
    refine Lib.hid ?_
    clear a1 a2 a11 a12 a15 a16 a17 a26 f0 f1 f2 f3 f4 f5 f6 f7
    replace HA := Aside0.mk (ans_below HA.out hb2); replace HB := Aside0.mk (HB.out.trans (hb2.mono HB.out.size)); replace HCF := Aside0.mk (blk_below HCF.out hb2); clear hb2
    obtain ⟨_, a1, a2, _, _, _, _, _, _, _, _, a11, a12, _, _, a15, a16, a17, _, _, _, _, _, _, _, _, a26, _⟩ := ans_cells HA.out
    obtain ⟨f0, f1, f2, f3, f4, f5, f6, f7⟩ := cfg_cells HCF.out
    go_wp2_with (go_at_call 40; refine Calls.mono (HG8.out _ _ ?cc) ?_; (case cc => exact fresh_C [0, 0, 0, 0, 0, 0, 0, 0] (by decide) _ _); rintro x w5 ⟨rfl, hd4⟩; have hb2 := below_step (below_alloc (Below.refl _ w4) _) (rdrawn_below hd4); clear hd4; refine Hid.out ?_)
    refine Lib.hid ?_
    clear a1 a2 a11 a12 a15 a16 a17 a26 f0 f1 f2 f3 f4 f5 f6 f7
    replace HA := Aside0.mk (ans_below HA.out hb2); replace HB := Aside0.mk (HB.out.trans (hb2.mono HB.out.size)); replace HCF := Aside0.mk (blk_below HCF.out hb2); clear hb2 HCF
    obtain ⟨_, a1, a2, _, _, _, _, _, _, _, _, a11, a12, _, _, a15, a16, a17, _, _, _, _, _, _, _, _, a26, _⟩ := ans_cells HA.out
    go_wp2_with (fail)
    go_loopw [7, 114] (fun ov iv wx => ov = .bool true ∧ iv = .int .i64 0 ∧ wx = w5) (fun _ _ _ => 0)
    case atStart => exact ⟨rfl, rfl, rfl⟩
    case round =>
      obtain ⟨rfl, rfl, rfl⟩ := hrel
      go_wp2
      go_loopw [7, 131] (fun ov iv wx => ov = .bool true ∧ iv = .int .i64 0 ∧ wx = wr) (fun _ _ _ => 0)
      case atStart => exact ⟨rfl, rfl, rfl⟩
      case round =>
        obtain ⟨rfl, rfl, rfl⟩ := hrel
        go_wp2
        go_ret
        exact ⟨rfl, HB.out⟩
set_option maxHeartbeats 8000000 in
set_option maxRecDepth 100000 in
theorem check_12 (w : World) : Calls Tryd.prog 15 #[.int .i64 12, .agg #[.int .i64 0, .int .i64 0, .slice none 0 0, .int .i64 0, .int .i64 0, .int .i64 0, .int .i64 0, .int .i64 0, .int .i64 0, .int .i64 0, .slice none 0 0, .slice none 0 0, .int .i64 0, .int .u64 0, .int .u64 0, .int .i64 3, .int .i64 0, .int .i64 0, .int .i64 0, .int .i64 0, .int .i64 0, .int .i64 0, .int .i64 0, .int .i64 0, .int .i64 0, .int .i64 0, .int .i64 0]] w fun e w' => e = .returned (.int .i64 0) ∧ Below w.heap.size w w' := by
  have HR39 := Lib.hid (fun W => rest_12 W)
  have HR38 := Lib.hid (fun W => (blank0 W : Calls Tryd.prog 38 #[.agg (aC 0 0)] W _))
  have HG5 := Lib.hid (fun W A (hC : Kd.C (Kd.int .i64) W A 5 [0, 0, 3, 0, 0]) => answers_signs.calls 6 A 5 [0, 0, 3, 0, 0] true W hC (Nat.le_refl _) (signs_f _ (by decide) 6 (by decide)))
  have HG8 := Lib.hid (fun W A (hC : Kd.C (Kd.int .i64) W A 8 [0, 0, 0, 0, 0, 0, 0, 0]) => answers_signs.calls 9 A 8 [0, 0, 0, 0, 0, 0, 0, 0] true W hC (Nat.le_refl _) (signs_f _ (by decide) 9 (by decide)))
  go_enter Tryd.func15, Tryd.ntmps15
  go_wp2_with (fail)
  go_region
  · refine exit_gen ?_
    intro W hW
    have HA := Aside0.mk (show IsAns W w.heap.size 3 0 by rw [hW]; exact ans_below (ans_below (ans_below (alloc_ans (w := w) rfl 3 0) ((Below.refl _ _).alloc (Nat.le_refl _) (.cells #[.int .i64 0, .int .i64 0, .int .i64 0, .int .i64 0, .int .i64 0, .int .i64 0, .int .i64 0, .slice none 0 0] 36))) ((Below.refl _ _).alloc (Nat.le_refl _) (.cells #[.int .i64 0, .int .i64 0, .int .i64 0, .int .i64 0, .int .i64 0, .int .i64 0, .int .i64 0, .int .i64 0] 40))) (below_drew (Below.refl _ _)))
    have HB := Aside0.mk (show Below w.heap.size w W by rw [hW]; exact below_drew (below_alloc (below_alloc (below_alloc (Below.refl _ w) _) _) _))
    have HCF := Aside0.mk (show IsCfg W (w.heap.size + 1 + 1) by rw [hW]; exact blk_below (blk_at (w := (w.alloc (.cells (aC 3 0) 42)).alloc (.cells #[.int .i64 0, .int .i64 0, .int .i64 0, .int .i64 0, .int .i64 0, .int .i64 0, .int .i64 0, .slice none 0 0] 36)) (by simp) (.cells #[.int .i64 0, .int .i64 0, .int .i64 0, .int .i64 0, .int .i64 0, .int .i64 0, .int .i64 0, .int .i64 0] 40)) (below_drew (Below.refl _ _)))
    clear hW
    go_wp2_with (first
      | (refine wpList_load_mid ?hg 42 (.tmp 3) ?ho w.heap.size 0 ?hx (aC 3 0).toList _ ?hc Tryd.underlying42 ?hd info42 ?_; (case ho => with_reducible rfl); (case hg => rfl); (case hx => rfl); (case hd => rfl); (case hc => exact rng_ans HA.out))
      | (go_at_call 39; refine (HR39.out _).mono ?_; rintro x w2 ⟨rfl, hb2⟩; replace HA := Aside0.mk (ans_below HA.out hb2); replace HB := Aside0.mk (HB.out.trans (hb2.mono HB.out.size)); replace HCF := Aside0.mk (blk_below HCF.out hb2); clear hb2; refine Hid.out ?_))
    refine Lib.hid ?_
    go_wp2_with (go_at_call 38; refine (HR38.out _).mono ?_; rintro x w3 ⟨rfl, hb2⟩; replace HA := Aside0.mk (ans_below HA.out hb2); replace HB := Aside0.mk (HB.out.trans (hb2.mono HB.out.size)); replace HCF := Aside0.mk (blk_below HCF.out hb2); clear hb2; refine Hid.out ?_)
    refine Lib.hid ?_
    obtain ⟨_, a1, a2, _, _, _, _, _, _, _, _, a11, a12, _, _, a15, a16, a17, _, _, _, _, _, _, _, _, a26, _⟩ := ans_cells HA.out
    obtain ⟨f0, f1, f2, f3, f4, f5, f6, f7⟩ := cfg_cells HCF.out
    go_wp2_with (go_at_call 40; refine Calls.mono (HG5.out _ _ ?cc) ?_; (case cc => exact fresh_C [0, 0, 3, 0, 0] (by decide) _ _); rintro x w4 ⟨rfl, hd4⟩; have hb2 := below_step (below_alloc (Below.refl _ w3) _) (rdrawn_below hd4); clear hd4; refine Hid.out ?_)
    refine Lib.hid ?_
    clear a1 a2 a11 a12 a15 a16 a17 a26 f0 f1 f2 f3 f4 f5 f6 f7
    replace HA := Aside0.mk (ans_below HA.out hb2); replace HB := Aside0.mk (HB.out.trans (hb2.mono HB.out.size)); replace HCF := Aside0.mk (blk_below HCF.out hb2); clear hb2
    obtain ⟨_, a1, a2, _, _, _, _, _, _, _, _, a11, a12, _, _, a15, a16, a17, _, _, _, _, _, _, _, _, a26, _⟩ := ans_cells HA.out
    obtain ⟨f0, f1, f2, f3, f4, f5, f6, f7⟩ := cfg_cells HCF.out
    go_wp2_with (go_at_call 40; refine Calls.mono (HG8.out _ _ ?cc) ?_; (case cc => exact fresh_C [0, 0, 0, 0, 0, 0, 0, 0] (by decide) _ _); rintro x w5 ⟨rfl, hd4⟩; have hb2 := below_step (below_alloc (Below.refl _ w4) _) (rdrawn_below hd4); clear hd4; refine Hid.out ?_)
    refine Lib.hid ?_
    clear a1 a2 a11 a12 a15 a16 a17 a26 f0 f1 f2 f3 f4 f5 f6 f7
    replace HA := Aside0.mk (ans_below HA.out hb2); replace HB := Aside0.mk (HB.out.trans (hb2.mono HB.out.size)); replace HCF := Aside0.mk (blk_below HCF.out hb2); clear hb2 HCF
    obtain ⟨_, a1, a2, _, _, _, _, _, _, _, _, a11, a12, _, _, a15, a16, a17, _, _, _, _, _, _, _, _, a26, _⟩ := ans_cells HA.out
    go_wp2_with (fail)
    go_loopw [7, 114] (fun ov iv wx => ov = .bool true ∧ iv = .int .i64 0 ∧ wx = w5) (fun _ _ _ => 0)
    case atStart => exact ⟨rfl, rfl, rfl⟩
    case round =>
      obtain ⟨rfl, rfl, rfl⟩ := hrel
      go_wp2
      go_loopw [7, 131] (fun ov iv wx => ov = .bool true ∧ iv = .int .i64 0 ∧ wx = wr) (fun _ _ _ => 0)
      case atStart => exact ⟨rfl, rfl, rfl⟩
      case round =>
        obtain ⟨rfl, rfl, rfl⟩ := hrel
        go_wp2
        go_ret
        exact ⟨rfl, HB.out⟩
  · refine exit_gen ?_
    intro W hW
    have HA := Aside0.mk (show IsAns W w.heap.size 3 0 by rw [hW]; exact ans_below (ans_below (ans_below (alloc_ans (w := w) rfl 3 0) ((Below.refl _ _).alloc (Nat.le_refl _) (.cells #[.int .i64 0, .int .i64 0, .int .i64 0, .int .i64 0, .int .i64 0, .int .i64 0, .int .i64 0, .int .i64 0] 40))) ((Below.refl _ _).alloc (Nat.le_refl _) (.cells #[.int .i64 0, .int .i64 0, .int .i64 0, .int .i64 0, .int .i64 0, .int .i64 0, .int .i64 0, .slice none 0 0] 36))) (below_drew (Below.refl _ _)))
    have HB := Aside0.mk (show Below w.heap.size w W by rw [hW]; exact below_drew (below_alloc (below_alloc (below_alloc (Below.refl _ w) _) _) _))
    have HCF := Aside0.mk (show IsCfg W (w.heap.size + 1) by rw [hW]; exact blk_below (blk_below (blk_at (w := w.alloc (.cells (aC 3 0) 42)) (by simp) (.cells #[.int .i64 0, .int .i64 0, .int .i64 0, .int .i64 0, .int .i64 0, .int .i64 0, .int .i64 0, .int .i64 0] 40)) ((Below.refl _ _).alloc (Nat.le_refl _) (.cells #[.int .i64 0, .int .i64 0, .int .i64 0, .int .i64 0, .int .i64 0, .int .i64 0, .int .i64 0, .slice none 0 0] 36))) (below_drew (Below.refl _ _)))
    clear hW
    go_wp2_with (first
      | (refine wpList_load_mid ?hg 42 (.tmp 3) ?ho w.heap.size 0 ?hx (aC 3 0).toList _ ?hc Tryd.underlying42 ?hd info42 ?_; (case ho => with_reducible rfl); (case hg => rfl); (case hx => rfl); (case hd => rfl); (case hc => exact rng_ans HA.out))
      | (go_at_call 39; refine (HR39.out _).mono ?_; rintro x w2 ⟨rfl, hb2⟩; replace HA := Aside0.mk (ans_below HA.out hb2); replace HB := Aside0.mk (HB.out.trans (hb2.mono HB.out.size)); replace HCF := Aside0.mk (blk_below HCF.out hb2); clear hb2; refine Hid.out ?_))
    refine Lib.hid ?_
    go_wp2_with (go_at_call 38; refine (HR38.out _).mono ?_; rintro x w3 ⟨rfl, hb2⟩; replace HA := Aside0.mk (ans_below HA.out hb2); replace HB := Aside0.mk (HB.out.trans (hb2.mono HB.out.size)); replace HCF := Aside0.mk (blk_below HCF.out hb2); clear hb2; refine Hid.out ?_)
    refine Lib.hid ?_
    obtain ⟨_, a1, a2, _, _, _, _, _, _, _, _, a11, a12, _, _, a15, a16, a17, _, _, _, _, _, _, _, _, a26, _⟩ := ans_cells HA.out
    obtain ⟨f0, f1, f2, f3, f4, f5, f6, f7⟩ := cfg_cells HCF.out
    go_wp2_with (go_at_call 40; refine Calls.mono (HG5.out _ _ ?cc) ?_; (case cc => exact fresh_C [0, 0, 3, 0, 0] (by decide) _ _); rintro x w4 ⟨rfl, hd4⟩; have hb2 := below_step (below_alloc (Below.refl _ w3) _) (rdrawn_below hd4); clear hd4; refine Hid.out ?_)
    refine Lib.hid ?_
    clear a1 a2 a11 a12 a15 a16 a17 a26 f0 f1 f2 f3 f4 f5 f6 f7
    replace HA := Aside0.mk (ans_below HA.out hb2); replace HB := Aside0.mk (HB.out.trans (hb2.mono HB.out.size)); replace HCF := Aside0.mk (blk_below HCF.out hb2); clear hb2
    obtain ⟨_, a1, a2, _, _, _, _, _, _, _, _, a11, a12, _, _, a15, a16, a17, _, _, _, _, _, _, _, _, a26, _⟩ := ans_cells HA.out
    obtain ⟨f0, f1, f2, f3, f4, f5, f6, f7⟩ := cfg_cells HCF.out
    go_wp2_with (go_at_call 40; refine Calls.mono (HG8.out _ _ ?cc) ?_; (case cc => exact fresh_C [0, 0, 0, 0, 0, 0, 0, 0] (by decide) _ _); rintro x w5 ⟨rfl, hd4⟩; have hb2 := below_step (below_alloc (Below.refl _ w4) _) (rdrawn_below hd4); clear hd4; refine Hid.out ?_)
    refine Lib.hid ?_
    clear a1 a2 a11 a12 a15 a16 a17 a26 f0 f1 f2 f3 f4 f5 f6 f7
    replace HA := Aside0.mk (ans_below HA.out hb2); replace HB := Aside0.mk (HB.out.trans (hb2.mono HB.out.size)); replace HCF := Aside0.mk (blk_below HCF.out hb2); clear hb2 HCF
    obtain ⟨_, a1, a2, _, _, _, _, _, _, _, _, a11, a12, _, _, a15, a16, a17, _, _, _, _, _, _, _, _, a26, _⟩ := ans_cells HA.out
    go_wp2_with (fail)
    go_loopw [7, 114] (fun ov iv wx => ov = .bool true ∧ iv = .int .i64 0 ∧ wx = w5) (fun _ _ _ => 0)
    case atStart => exact ⟨rfl, rfl, rfl⟩
    case round =>
      obtain ⟨rfl, rfl, rfl⟩ := hrel
      go_wp2
      go_loopw [7, 131] (fun ov iv wx => ov = .bool true ∧ iv = .int .i64 0 ∧ wx = wr) (fun _ _ _ => 0)
      case atStart => exact ⟨rfl, rfl, rfl⟩
      case round =>
        obtain ⟨rfl, rfl, rfl⟩ := hrel
        go_wp2
        go_ret
        exact ⟨rfl, HB.out⟩
set_option maxHeartbeats 8000000 in
set_option maxRecDepth 100000 in
theorem check_14 (w : World) : Calls Tryd.prog 15 #[.int .i64 14, .agg #[.int .i64 0, .int .i64 0, .slice none 0 0, .int .i64 0, .int .i64 0, .int .i64 0, .int .i64 0, .int .i64 0, .int .i64 0, .int .i64 0, .slice none 0 0, .slice none 0 0, .int .i64 0, .int .u64 0, .int .u64 0, .int .i64 3, .int .i64 0, .int .i64 0, .int .i64 0, .int .i64 0, .int .i64 0, .int .i64 0, .int .i64 0, .int .i64 0, .int .i64 0, .int .i64 0, .int .i64 0]] w fun e w' => e = .returned (.int .i64 90) ∧ Below w.heap.size w w' := by
  go_enter Tryd.func15, Tryd.ntmps15
  go_wp2
  go_ret
  exact ⟨rfl, below_alloc (Below.refl _ _) _⟩

end Go.Proofs.YtokioddaonknpaaDoor.A

namespace Go.Proofs.YtokioddaonknpaaDoor.A
open Go.RowKit Go.Proofs.YtokioddaonknpaaDoorW.PrintWords Go.Proofs.YtokioddaonknpaaDoor.PAnswersReads
set_option linter.unusedSimpArgs false
set_option linter.unusedVariables false

theorem fresh_at {W : World} {n : Nat} (h : W.heap.size = n) (l : List Int) (hl : l.length ≤ 100) (t : TypeId) : Kd.C (Kd.int .i64) (W.alloc (.cells (l.map (Value.int .i64)).toArray t)) (some ⟨n, 0, none⟩) l.length l := by
  subst h
  exact fresh_C l hl W t

set_option maxHeartbeats 8000000 in
set_option maxRecDepth 100000 in
theorem first_10 (w : World) (hE : Env w) : Calls Tryd.prog 32 #[.int .i64 10, .agg #[.int .i64 0, .int .i64 0, .slice none 0 0, .int .i64 0, .int .i64 0, .int .i64 0, .int .i64 0, .int .i64 0, .int .i64 0, .int .i64 0, .slice none 0 0, .slice none 0 0, .int .i64 0, .int .u64 0, .int .u64 0, .int .i64 0, .int .i64 (-1), .int .i64 0, .int .i64 0, .int .i64 0, .int .i64 0, .int .i64 0, .int .i64 0, .int .i64 0, .int .i64 0, .int .i64 0, .int .i64 0]] w fun e w' => e = .returned (.string (ofL [104, 111, 108, 100, 101, 114, 32, 45, 49, 32, 48])) ∧ Below w.heap.size w w' := by
  obtain ⟨x, hx⟩ : ∃ x, x = ofL (numsL [-1, 0]) := ⟨_, rfl⟩
  have hfin : (⟨#[104, 111, 108, 100, 101, 114]⟩ : ByteArray) ++ x = ofL [104, 111, 108, 100, 101, 114, 32, 45, 49, 32, 48] := by rw [hx]; decide +kernel
  have hxs : x.size = 5 := by rw [hx]; decide +kernel
  have q1 : (9223372036854775807 < (⟨#[104, 111, 108, 100, 101, 114]⟩ : ByteArray).size + x.size) = False := eq_false (by rw [hxs]; decide)
  have q2 : (9223372036854775807 < 6 + x.size) = False := eq_false (by rw [hxs]; decide)
  have HN := Lib.hid (nums_at 2 [-1, 0] rfl (by decide) (by intro n hn; simp at hn; unfold Rng; omega) x hx)
  have HF := Aside0.mk hfin
  have HE := Aside0.mk hE
  clear hfin hx hxs hE
  go_enter Tryd.func32, Tryd.ntmps32
  go_wp2_with (fail)
  go_region
  all_goals
    go_wp2_with (go_at_call 17; refine Hid.out ?_)
    refine Lib.hid ?_
    with_reducible refine Calls.mono (HN.out (some _) _ ?ae ?ac) ?_
    case ae => refine HE.out.step ?_; with_reducible repeat (first | exact Below.refl _ _ | assumption | refine below_alloc ?_ _ | refine below_drew ?_ | refine pw_below_drewN ?_ _)
    case ac => (with_reducible repeat (first | refine Kd.C_drew ?_ | refine Kd.C_drewN ?_ _)); refine fresh_at ?_ [-1, 0] (by decide) _; simp
    rintro e4 w4 ⟨rfl, hbI⟩
    have hb4 : Below w.heap.size w w4 := below_step (by with_reducible repeat (first | exact Below.refl _ _ | assumption | refine below_alloc ?_ _ | refine below_drew ?_ | refine pw_below_drewN ?_ _)) hbI
    clear hbI
    go_wp2
    go_ret
    exact ⟨by rw [← HF.out]; rfl, hb4⟩

set_option maxHeartbeats 8000000 in
set_option maxRecDepth 100000 in
theorem first_12 (w : World) (hE : Env w) : Calls Tryd.prog 32 #[.int .i64 12, .agg #[.int .i64 0, .int .i64 0, .slice none 0 0, .int .i64 0, .int .i64 0, .int .i64 0, .int .i64 0, .int .i64 0, .int .i64 0, .int .i64 0, .slice none 0 0, .slice none 0 0, .int .i64 0, .int .u64 0, .int .u64 0, .int .i64 3, .int .i64 0, .int .i64 0, .int .i64 0, .int .i64 0, .int .i64 0, .int .i64 0, .int .i64 0, .int .i64 0, .int .i64 0, .int .i64 0, .int .i64 0]] w fun e w' => e = .returned (.string (ofL [102, 114, 101, 101, 32, 51])) ∧ Below w.heap.size w w' := by
  obtain ⟨x, hx⟩ : ∃ x, x = ofL (numsL [3]) := ⟨_, rfl⟩
  have hfin : (⟨#[102, 114, 101, 101]⟩ : ByteArray) ++ x = ofL [102, 114, 101, 101, 32, 51] := by rw [hx]; decide +kernel
  have hxs : x.size = 2 := by rw [hx]; decide +kernel
  have q1 : (9223372036854775807 < (⟨#[102, 114, 101, 101]⟩ : ByteArray).size + x.size) = False := eq_false (by rw [hxs]; decide)
  have q2 : (9223372036854775807 < 4 + x.size) = False := eq_false (by rw [hxs]; decide)
  have HN := Lib.hid (nums_at 1 [3] rfl (by decide) (by intro n hn; simp at hn; unfold Rng; omega) x hx)
  have HF := Aside0.mk hfin
  have HE := Aside0.mk hE
  clear hfin hx hxs hE
  go_enter Tryd.func32, Tryd.ntmps32
  go_wp2_with (fail)
  go_region
  all_goals
    go_wp2_with (go_at_call 17; refine Hid.out ?_)
    refine Lib.hid ?_
    with_reducible refine Calls.mono (HN.out (some _) _ ?ae ?ac) ?_
    case ae => refine HE.out.step ?_; with_reducible repeat (first | exact Below.refl _ _ | assumption | refine below_alloc ?_ _ | refine below_drew ?_ | refine pw_below_drewN ?_ _)
    case ac => (with_reducible repeat (first | refine Kd.C_drew ?_ | refine Kd.C_drewN ?_ _)); refine fresh_at ?_ [3] (by decide) _; simp
    rintro e4 w4 ⟨rfl, hbI⟩
    have hb4 : Below w.heap.size w w4 := below_step (by with_reducible repeat (first | exact Below.refl _ _ | assumption | refine below_alloc ?_ _ | refine below_drew ?_ | refine pw_below_drewN ?_ _)) hbI
    clear hbI
    go_wp2
    go_ret
    exact ⟨by rw [← HF.out]; rfl, hb4⟩

end Go.Proofs.YtokioddaonknpaaDoor.A

namespace Go.Proofs.YtokioddaonknpaaDoor.A
open Go.RowKit Go.Proofs.YtokioddaonknpaaDoorW.PrintWords Go.Proofs.YtokioddaonknpaaDoor.PAnswersReads
set_option linter.unusedSimpArgs false
set_option linter.unusedVariables false

set_option maxHeartbeats 8000000 in
set_option maxRecDepth 100000 in
theorem print_12 (w : World) (hE : Env w) : Calls Tryd.prog 13 #[.int .i64 12, .agg #[.int .i64 0, .int .i64 0, .slice none 0 0, .int .i64 0, .int .i64 0, .int .i64 0, .int .i64 0, .int .i64 0, .int .i64 0, .int .i64 0, .slice none 0 0, .slice none 0 0, .int .i64 0, .int .u64 0, .int .u64 0, .int .i64 3, .int .i64 0, .int .i64 0, .int .i64 0, .int .i64 0, .int .i64 0, .int .i64 0, .int .i64 0, .int .i64 0, .int .i64 0, .int .i64 0, .int .i64 0]] w fun e w' => e = .returned (.tuple #[.string (ofL [102, 114, 101, 101, 32, 51, 10]), .int .i64 0]) ∧ Below w.heap.size w w' := by
  have hfi := fun W hE => first_12 W hE
  obtain ⟨t0, ht0⟩ : ∃ t, t = ofL [102, 114, 101, 101, 32, 51] := ⟨_, rfl⟩
  rw [← ht0] at hfi
  have hts : t0.size = 6 := by rw [ht0]; rfl
  have HT := Aside0.mk hts
  have q1 : (9223372036854775807 < t0.size + (⟨#[10]⟩ : ByteArray).size) = False := eq_false (by rw [hts]; decide)
  have q2 : (9223372036854775807 < t0.size + 1) = False := eq_false (by rw [hts]; decide)
  have HFN := Aside0.mk (show t0 ++ ⟨#[10]⟩ = ofL [102, 114, 101, 101, 32, 51, 10] by rw [ht0]; rfl)
  clear hts ht0
  have HCH := Lib.hid (fun W => check_12 W)
  have HFI := Lib.hid hfi
  clear hfi
  have HA := Aside0.mk (alloc_ans (w := w) rfl 3 0)
  have HB := Aside0.mk ((Below.refl w.heap.size w).alloc (Nat.le_refl _) (.cells (aC 3 0) 42))
  have HE := Aside0.mk hE
  clear hE
  go_enter Tryd.func13, Tryd.ntmps13
  go_wp2_with (first
    | (refine wpList_load_mid ?hg 42 (.tmp 3) ?ho w.heap.size 0 ?hx (aC 3 0).toList _ ?hc Tryd.underlying42 ?hd info42 ?_; (case ho => with_reducible rfl); (case hg => rfl); (case hx => rfl); (case hd => rfl); (case hc => exact rng_ans HA.out))
    | (go_at_call 15; refine (HCH.out _).mono ?_; rintro x w2 ⟨rfl, hb2⟩; replace HA := Aside0.mk (ans_below HA.out hb2); replace HB := Aside0.mk (HB.out.trans (hb2.mono HB.out.size)); clear hb2; obtain ⟨a0, _, a2, _, _, _, _, _, _, _, _, a11, _, _, _, _, _, _, _, _, _, _, _, _, _, _, _, _⟩ := ans_cells HA.out; refine Hid.out ?_))
  refine Lib.hid ?_
  have HA2 := Aside0.mk (ans_below HA.out ((Below.refl _ _).alloc (Nat.le_refl _) (.cells #[.pointer none, .slice none 0 0] 65)))
  have HB2 := Aside0.mk (below_alloc HB.out (.cells #[.pointer none, .slice none 0 0] 65))
  have HL2 := Aside0.mk (blk_at (w := w2) rfl (.cells #[.pointer none, .slice none 0 0] 65))
  go_wp2_with (first
    | (refine wpList_load_mid ?hg 42 (.tmp 3) ?ho w.heap.size 0 ?hx (aC 3 0).toList _ ?hc Tryd.underlying42 ?hd info42 ?_; (case ho => with_reducible rfl); (case hg => rfl); (case hx => rfl); (case hd => rfl); (case hc => exact rng_ans HA2.out))
    | (go_at_call 32; refine (HFI.out _ (HE.out.step HB2.out)).mono ?_; rintro x w3 ⟨rfl, hb3⟩; refine Hid.out ?_))
  refine Lib.hid ?_
  have hs2 : w.heap.size ≤ w2.heap.size := HB.out.size
  have hs3 : w2.heap.size ≤ w3.heap.size := Nat.le_trans (Nat.le_of_lt (blk_lt HL2.out)) hb3.size
  have HB3 := Aside0.mk (HB2.out.trans (hb3.mono HB2.out.size))
  have HA3 := Aside0.mk (ans_below HA2.out hb3)
  have HL3 := Aside0.mk (blk_below HL2.out hb3)
  have HW := Lib.hid (writeString_any w2.heap.size w2.heap.size [] (t0 ++ ⟨#[10]⟩) w3 (.inl ⟨Nat.le_refl _, _, HL3.out, ⟨rfl, .inl ⟨rfl, rfl⟩⟩, by simp [Value.ownBlock]⟩) (by rw [ByteArray.size_append, HT.out]; decide) hs3)
  clear hb3
  go_wp2_with (go_at_call 31; refine HW.out.mono ?_; rintro x w4 ⟨rfl, hA4, hb4⟩; refine Hid.out ?_)
  refine Lib.hid ?_
  have HB4 := Aside0.mk (HB3.out.trans (hb4.mono hs2))
  have HA4 := Aside0.mk (show IsAns w4 w.heap.size 3 0 from (hb4.block _ (blk_lt HA.out)).trans HA3.out)
  have hs4 : w2.heap.size ≤ w4.heap.size := Nat.le_trans hs3 hb4.size
  have HST := Lib.hid (Tryd.Builder_String_any w2.heap.size w2.heap.size (t0 ++ ⟨#[10]⟩).data.toList w4 (.inr (by have := hA4; rw [List.nil_append, Lib.strCells_eq] at this; exact this)) hs4)
  clear a0 a2 a11 hA4 hb4
  obtain ⟨a0, _, a2, _, _, _, _, _, _, _, _, a11, _, _, _, _, _, _, _, _, _, _, _, _, _, _, _, _⟩ := ans_cells HA4.out
  go_wp2_with (fail)
  go_loopw [37] (fun iv wx => iv = .int .i64 0 ∧ wx = w4) (fun _ _ => 0)
  case atStart => exact ⟨rfl, rfl⟩
  case round =>
    obtain ⟨rfl, rfl⟩ := hrel
    go_wp2_with (fail)
    go_loopw [53] (fun iv wx => iv = .int .i64 0 ∧ wx = wr) (fun _ _ => 0)
    case atStart => exact ⟨rfl, rfl⟩
    case round =>
      obtain ⟨rfl, rfl⟩ := hrel
      go_wp2_with (go_at_call 33; refine HST.out.mono ?_; rintro x w5 ⟨rfl, hb5⟩; have HB5 := Aside0.mk (HB4.out.trans (hb5.mono hs2)); clear hb5)
      go_ret2
      exact ⟨by rw [← HFN.out]; rfl, HB5.out⟩

set_option maxHeartbeats 8000000 in
set_option maxRecDepth 100000 in
theorem print_10 (w : World) (hE : Env w) : Calls Tryd.prog 13 #[.int .i64 10, .agg #[.int .i64 0, .int .i64 0, .slice none 0 0, .int .i64 0, .int .i64 0, .int .i64 0, .int .i64 0, .int .i64 0, .int .i64 0, .int .i64 0, .slice none 0 0, .slice none 0 0, .int .i64 0, .int .u64 0, .int .u64 0, .int .i64 0, .int .i64 (-1), .int .i64 0, .int .i64 0, .int .i64 0, .int .i64 0, .int .i64 0, .int .i64 0, .int .i64 0, .int .i64 0, .int .i64 0, .int .i64 0]] w fun e w' => e = .returned (.tuple #[.string (ofL [104, 111, 108, 100, 101, 114, 32, 45, 49, 32, 48, 10]), .int .i64 0]) ∧ Below w.heap.size w w' := by
  have hfi := fun W hE => first_10 W hE
  obtain ⟨t0, ht0⟩ : ∃ t, t = ofL [104, 111, 108, 100, 101, 114, 32, 45, 49, 32, 48] := ⟨_, rfl⟩
  rw [← ht0] at hfi
  have hts : t0.size = 11 := by rw [ht0]; rfl
  have HT := Aside0.mk hts
  have q1 : (9223372036854775807 < t0.size + (⟨#[10]⟩ : ByteArray).size) = False := eq_false (by rw [hts]; decide)
  have q2 : (9223372036854775807 < t0.size + 1) = False := eq_false (by rw [hts]; decide)
  have HFN := Aside0.mk (show t0 ++ ⟨#[10]⟩ = ofL [104, 111, 108, 100, 101, 114, 32, 45, 49, 32, 48, 10] by rw [ht0]; rfl)
  clear hts ht0
  have HCH := Lib.hid (fun W => check_10 W)
  have HFI := Lib.hid hfi
  clear hfi
  have HA := Aside0.mk (alloc_ans (w := w) rfl 0 (-1))
  have HB := Aside0.mk ((Below.refl w.heap.size w).alloc (Nat.le_refl _) (.cells (aC 0 (-1)) 42))
  have HE := Aside0.mk hE
  clear hE
  go_enter Tryd.func13, Tryd.ntmps13
  go_wp2_with (first
    | (refine wpList_load_mid ?hg 42 (.tmp 3) ?ho w.heap.size 0 ?hx (aC 0 (-1)).toList _ ?hc Tryd.underlying42 ?hd info42 ?_; (case ho => with_reducible rfl); (case hg => rfl); (case hx => rfl); (case hd => rfl); (case hc => exact rng_ans HA.out))
    | (go_at_call 15; refine (HCH.out _).mono ?_; rintro x w2 ⟨rfl, hb2⟩; replace HA := Aside0.mk (ans_below HA.out hb2); replace HB := Aside0.mk (HB.out.trans (hb2.mono HB.out.size)); clear hb2; obtain ⟨a0, _, a2, _, _, _, _, _, _, _, _, a11, _, _, _, _, _, _, _, _, _, _, _, _, _, _, _, _⟩ := ans_cells HA.out; refine Hid.out ?_))
  refine Lib.hid ?_
  have HA2 := Aside0.mk (ans_below HA.out ((Below.refl _ _).alloc (Nat.le_refl _) (.cells #[.pointer none, .slice none 0 0] 65)))
  have HB2 := Aside0.mk (below_alloc HB.out (.cells #[.pointer none, .slice none 0 0] 65))
  have HL2 := Aside0.mk (blk_at (w := w2) rfl (.cells #[.pointer none, .slice none 0 0] 65))
  go_wp2_with (first
    | (refine wpList_load_mid ?hg 42 (.tmp 3) ?ho w.heap.size 0 ?hx (aC 0 (-1)).toList _ ?hc Tryd.underlying42 ?hd info42 ?_; (case ho => with_reducible rfl); (case hg => rfl); (case hx => rfl); (case hd => rfl); (case hc => exact rng_ans HA2.out))
    | (go_at_call 32; refine (HFI.out _ (HE.out.step HB2.out)).mono ?_; rintro x w3 ⟨rfl, hb3⟩; refine Hid.out ?_))
  refine Lib.hid ?_
  have hs2 : w.heap.size ≤ w2.heap.size := HB.out.size
  have hs3 : w2.heap.size ≤ w3.heap.size := Nat.le_trans (Nat.le_of_lt (blk_lt HL2.out)) hb3.size
  have HB3 := Aside0.mk (HB2.out.trans (hb3.mono HB2.out.size))
  have HA3 := Aside0.mk (ans_below HA2.out hb3)
  have HL3 := Aside0.mk (blk_below HL2.out hb3)
  have HW := Lib.hid (writeString_any w2.heap.size w2.heap.size [] (t0 ++ ⟨#[10]⟩) w3 (.inl ⟨Nat.le_refl _, _, HL3.out, ⟨rfl, .inl ⟨rfl, rfl⟩⟩, by simp [Value.ownBlock]⟩) (by rw [ByteArray.size_append, HT.out]; decide) hs3)
  clear hb3
  go_wp2_with (go_at_call 31; refine HW.out.mono ?_; rintro x w4 ⟨rfl, hA4, hb4⟩; refine Hid.out ?_)
  refine Lib.hid ?_
  have HB4 := Aside0.mk (HB3.out.trans (hb4.mono hs2))
  have HA4 := Aside0.mk (show IsAns w4 w.heap.size 0 (-1) from (hb4.block _ (blk_lt HA.out)).trans HA3.out)
  have hs4 : w2.heap.size ≤ w4.heap.size := Nat.le_trans hs3 hb4.size
  have HST := Lib.hid (Tryd.Builder_String_any w2.heap.size w2.heap.size (t0 ++ ⟨#[10]⟩).data.toList w4 (.inr (by have := hA4; rw [List.nil_append, Lib.strCells_eq] at this; exact this)) hs4)
  clear a0 a2 a11 hA4 hb4
  obtain ⟨a0, _, a2, _, _, _, _, _, _, _, _, a11, _, _, _, _, _, _, _, _, _, _, _, _, _, _, _, _⟩ := ans_cells HA4.out
  go_wp2_with (fail)
  go_loopw [37] (fun iv wx => iv = .int .i64 0 ∧ wx = w4) (fun _ _ => 0)
  case atStart => exact ⟨rfl, rfl⟩
  case round =>
    obtain ⟨rfl, rfl⟩ := hrel
    go_wp2_with (fail)
    go_loopw [53] (fun iv wx => iv = .int .i64 0 ∧ wx = wr) (fun _ _ => 0)
    case atStart => exact ⟨rfl, rfl⟩
    case round =>
      obtain ⟨rfl, rfl⟩ := hrel
      go_wp2_with (go_at_call 33; refine HST.out.mono ?_; rintro x w5 ⟨rfl, hb5⟩; have HB5 := Aside0.mk (HB4.out.trans (hb5.mono hs2)); clear hb5)
      go_ret2
      exact ⟨by rw [← HFN.out]; rfl, HB5.out⟩

end Go.Proofs.YtokioddaonknpaaDoor.A
