/- Own text: the walk of the reference's only. -/
import Derived.Test.YtokioddaonknpaaDoorE10
namespace Go.Proofs.YtokioddaonknpaaDoor.A
open Go.RowKit Go.Proofs.YtokioddaonknpaaDoorW.PrintWords Go.Proofs.YtokioddaonknpaaDoor.PAnswersReads
set_option linter.unusedSimpArgs false

/-- An event with just its kind's fields, and its words. -/
def OnlyPost (o : Ev) (ws : List ByteArray) (w : World) (x : Ending) (w' : World) : Prop := ∃ A c A' c', x = .returned (.tuple #[.agg (evCells o A c), .slice A' ws.length c']) ∧ ws.length ≤ c' ∧ o.list.length ≤ c ∧ Kd.C (Kd.int .i64) w' A o.list.length o.list ∧ Kd.C Kd.string w' A' ws.length ws ∧ Below w.heap.size w w'
theorem fresh_S (l : List ByteArray) (hl : l.length ≤ 100) (w : World) (t : TypeId) : Kd.C Kd.string (w.alloc (.cells (l.map Value.string).toArray t)) (some ⟨w.heap.size, 0, none⟩) l.length l := by
  refine Kd.C_of_reads (d := (ByteArray.empty)) ⟨rfl, by omega, fun _ => ⟨_, rfl, fun j hj => ?_⟩⟩
  rw [add_plain]
  refine (cell_of_row _ _ j _ _ _ (heap_alloc_new w _)).trans ?_
  simp [List.getD_eq_getElem?_getD, List.getElem?_eq_getElem hj]

theorem only_close {R : Ending → World → Prop} {w' : World} {b : Nat} {e : Ev} {A : Option Addr} {c : Nat} {v : Value} {tmps : Array Value} (h2 : tmps[2]?.getD undef = .pointer (some ⟨b, 0, none⟩)) (h3 : tmps[3]?.getD undef = v) (he : IsEv w' b e A c)
    (hR : R (.returned (.tuple #[.agg (evCells e A c), v])) w') : bodyPost Tryd.prog Tryd.f19 R .ret { tmps := tmps, defers := [] } w' := by
  obtain ⟨c0, c1, c2, c3, c4, c5, _⟩ := ev_cells he
  refine bodyPost_ret (v := .tuple #[.agg (evCells e A c), v]) ?_ rfl hR
  simp [results, Tryd.results19, go_sem, h2, h3, c0, c1, c2, c3, c4, c5, evCells]

theorem put6_size (w : World) (b : Nat) (e : Ev) (A : Option Addr) (c : Nat) : (put6 w b e A c).heap.size = w.heap.size := by
  simp [put6, World.setCell]
theorem only_end {P w w1 : World} {b : Nat} {e : Ev} {A : Option Addr} {c : Nat} {ws : List ByteArray} {tmps : Array Value} (h2 : tmps[2]?.getD undef = .pointer (some ⟨b, 0, none⟩)) (h3 : tmps[3]?.getD undef = .slice (some ⟨w1.heap.size, 0, none⟩) ws.length ws.length) (he : IsEv P b e A c) (hs : P.heap.size = w1.heap.size) (hl : ws.length ≤ 100)
    (hB : Below w.heap.size w P) (hC : Kd.C (Kd.int .i64) P A e.list.length e.list) (hc : e.list.length ≤ c) :
    bodyPost Tryd.prog Tryd.f19 (OnlyPost e ws w) .ret { tmps := tmps, defers := [] } (P.alloc (.cells (ws.map Value.string).toArray 9)) := by
  have hal := (Below.refl P.heap.size P).alloc (Nat.le_refl _) (.cells (ws.map Value.string).toArray 9)
  refine only_close h2 h3 (ev_below he hal) ?_
  rw [← hs]
  exact ⟨A, c, some ⟨P.heap.size, 0, none⟩, ws.length, rfl, Nat.le_refl _, hc, Kd.C_below hC hal, fresh_S ws hl P 9, hB.trans (hal.mono hB.size)⟩

set_option maxHeartbeats 8000000 in
set_option maxRecDepth 100000 in
theorem only_tick (jb tm nd lm : Int) (n : Nat) (A : Option Addr) (c : Nat) (w : World) (hE : Env w) (ht : Rng tm) :
    Calls Tryd.prog 19 #[.agg #[.int .i64 6, .int .i64 jb, .int .i64 tm, .int .i64 nd, .int .i64 lm, .slice A n c]] w (OnlyPost ⟨6, 0, tm, 0, 0, []⟩ [ofL wTick, ofL (Lib.itoa tm)] w) := by
  have hT := fun W hE => digits_any tm ht W hE
  obtain ⟨y, hy⟩ : ∃ y, y = ofL (Lib.itoa tm) := ⟨_, rfl⟩
  rw [← hy] at hT ⊢
  have HT := Lib.hid hT
  have HE := Aside0.mk hE
  obtain ⟨b, hb⟩ : ∃ b, b = w.heap.size + 1 := ⟨_, rfl⟩
  clear hT hy hE
  go_enter Tryd.func19, Tryd.ntmps19
  go_wp2_with (go_at_call 43; refine (HT.out _ (HE.out.step (below_alloc (below_alloc (below_alloc (Below.refl _ w) _) _) _))).mono ?_; rintro x w1 ⟨rfl, hb1⟩; refine Hid.out ?_)
  refine Lib.hid ?_
  have HB1 := Aside0.mk (below_step (below_alloc (below_alloc (below_alloc (Below.refl _ w) _) _) _) hb1)
  have HR1 := Aside0.mk (show IsEv w1 (w.heap.size + 1) evZ none 0 from ev_below (ev_below (alloc_ev (w := w.alloc _) (by simp) evZ none 0) ((Below.refl _ _).alloc (Nat.le_refl _) _)) hb1)
  have HO1 := Aside0.mk (show IsEv w1 (w.heap.size + 1 + 1) ⟨6, 0, tm, 0, 0, []⟩ none 0 from ev_below (alloc_ev (w := (w.alloc _).alloc _) (by simp) ⟨6, 0, tm, 0, 0, []⟩ none 0) hb1)
  obtain ⟨r0, r1, r2, r3, r4, r5, rf⟩ := ev_cells HR1.out
  obtain ⟨o0, o1, o2, o3, o4, o5, of_⟩ := ev_cells HO1.out
  have l1 := blk_lt HR1.out
  have l2 := blk_lt HO1.out
  clear hb1
  go_wp2
  refine only_end (P := put6 w1 (w.heap.size + 1) ⟨6, 0, tm, 0, 0, []⟩ none 0) (ws := [ofL wTick, y]) rfl rfl (put6_ev HR1.out ⟨6, 0, tm, 0, 0, []⟩ none 0) (put6_size _ _ _ _ _) (by simp) (put6_below HB1.out (by omega) ⟨6, 0, tm, 0, 0, []⟩ none 0) (Kd.C_nil _ _) (Nat.le_refl _)

set_option maxHeartbeats 8000000 in
set_option maxRecDepth 100000 in
theorem only_decay (jb tm nd lm : Int) (n : Nat) (A : Option Addr) (c : Nat) (w : World) (hE : Env w) (ht : Rng tm) :
    Calls Tryd.prog 19 #[.agg #[.int .i64 7, .int .i64 jb, .int .i64 tm, .int .i64 nd, .int .i64 lm, .slice A n c]] w (OnlyPost ⟨7, 0, tm, 0, 0, []⟩ [ofL wDecay, ofL (Lib.itoa tm)] w) := by
  have hT := fun W hE => digits_any tm ht W hE
  obtain ⟨y, hy⟩ : ∃ y, y = ofL (Lib.itoa tm) := ⟨_, rfl⟩
  rw [← hy] at hT ⊢
  have HT := Lib.hid hT
  have HE := Aside0.mk hE
  obtain ⟨b, hb⟩ : ∃ b, b = w.heap.size + 1 := ⟨_, rfl⟩
  clear hT hy hE
  go_enter Tryd.func19, Tryd.ntmps19
  go_wp2_with (go_at_call 43; refine (HT.out _ (HE.out.step (below_alloc (below_alloc (below_alloc (Below.refl _ w) _) _) _))).mono ?_; rintro x w1 ⟨rfl, hb1⟩; refine Hid.out ?_)
  refine Lib.hid ?_
  have HB1 := Aside0.mk (below_step (below_alloc (below_alloc (below_alloc (Below.refl _ w) _) _) _) hb1)
  have HR1 := Aside0.mk (show IsEv w1 (w.heap.size + 1) evZ none 0 from ev_below (ev_below (alloc_ev (w := w.alloc _) (by simp) evZ none 0) ((Below.refl _ _).alloc (Nat.le_refl _) _)) hb1)
  have HO1 := Aside0.mk (show IsEv w1 (w.heap.size + 1 + 1) ⟨7, 0, tm, 0, 0, []⟩ none 0 from ev_below (alloc_ev (w := (w.alloc _).alloc _) (by simp) ⟨7, 0, tm, 0, 0, []⟩ none 0) hb1)
  obtain ⟨r0, r1, r2, r3, r4, r5, rf⟩ := ev_cells HR1.out
  obtain ⟨o0, o1, o2, o3, o4, o5, of_⟩ := ev_cells HO1.out
  have l1 := blk_lt HR1.out
  have l2 := blk_lt HO1.out
  clear hb1
  go_wp2
  refine only_end (P := put6 w1 (w.heap.size + 1) ⟨7, 0, tm, 0, 0, []⟩ none 0) (ws := [ofL wDecay, y]) rfl rfl (put6_ev HR1.out ⟨7, 0, tm, 0, 0, []⟩ none 0) (put6_size _ _ _ _ _) (by simp) (put6_below HB1.out (by omega) ⟨7, 0, tm, 0, 0, []⟩ none 0) (Kd.C_nil _ _) (Nat.le_refl _)

end Go.Proofs.YtokioddaonknpaaDoor.A
