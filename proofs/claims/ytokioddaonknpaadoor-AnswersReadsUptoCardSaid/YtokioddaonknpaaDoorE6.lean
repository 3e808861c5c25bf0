/- Own text: an event's struct written over; words in memory by their first one. -/
import Derived.Test.YtokioddaonknpaaDoorE5
namespace Go.Proofs.YtokioddaonknpaaDoor.A
open Go.RowKit Go.Proofs.YtokioddaonknpaaDoorW.PrintWords Go.Proofs.YtokioddaonknpaaDoor.PAnswersReads
set_option linter.unusedSimpArgs false

theorem wp_gen {c : Code} {Q : Exit → Act → World → Prop} {a : Act} {w0 : World} (h : ∀ W, W = w0 → Code.wp Tryd.prog c Q a W) : Code.wp Tryd.prog c Q a w0 := h w0 rfl
theorem ev_put {w : World} {b : Nat} {e e' : Ev} {A A' : Option Addr} {c c' : Nat} (h : IsEv w b e A c) (i : Nat) (u : Value) (he : evCells e' A' c' = (evCells e A c).setIfInBounds i u) : IsEv (w.setCell ⟨b, i, none⟩ u) b e' A' c' := by
  have := blk_set h i u
  unfold IsEv
  rw [this, he]
def put6 (w : World) (b : Nat) (e : Ev) (A : Option Addr) (c : Nat) : World :=
  (((((w.setCell ⟨b, 0, none⟩ (.int .i64 e.kind)).setCell ⟨b, 1, none⟩ (.int .i64 e.job)).setCell ⟨b, 2, none⟩ (.int .i64 e.tm)).setCell ⟨b, 3, none⟩ (.int .i64 e.nodes)).setCell ⟨b, 4, none⟩ (.int .i64 e.limit)).setCell ⟨b, 5, none⟩ (.slice A e.list.length c)
theorem cells_put6 (e0 e : Ev) (A0 A : Option Addr) (c0 c : Nat) : ((((((evCells e0 A0 c0).setIfInBounds 0 (.int .i64 e.kind)).setIfInBounds 1 (.int .i64 e.job)).setIfInBounds 2 (.int .i64 e.tm)).setIfInBounds 3 (.int .i64 e.nodes)).setIfInBounds 4 (.int .i64 e.limit)).setIfInBounds 5 (.slice A e.list.length c) = evCells e A c := by
  simp [evCells]
theorem put6_ev {w : World} {b : Nat} {e0 : Ev} {A0 : Option Addr} {c0 : Nat} (h : IsEv w b e0 A0 c0) (e : Ev) (A : Option Addr) (c : Nat) : IsEv (put6 w b e A c) b e A c := by
  have h0 := blk_set h 0 (.int .i64 e.kind)
  have h1 := blk_set h0 1 (.int .i64 e.job)
  have h2 := blk_set h1 2 (.int .i64 e.tm)
  have h3 := blk_set h2 3 (.int .i64 e.nodes)
  have h4 := blk_set h3 4 (.int .i64 e.limit)
  have h5 := blk_set h4 5 (.slice A e.list.length c)
  rw [cells_put6] at h5
  exact h5
theorem put6_below {w0 w : World} {B b : Nat} (h : Below B w0 w) (hb : B ≤ b) (e : Ev) (A : Option Addr) (c : Nat) : Below B w0 (put6 w b e A c) :=
  (((((h.setCell (p := ⟨b, 0, none⟩) hb _).setCell (p := ⟨b, 1, none⟩) hb _).setCell (p := ⟨b, 2, none⟩) hb _).setCell (p := ⟨b, 3, none⟩) hb _).setCell (p := ⟨b, 4, none⟩) hb _).setCell (p := ⟨b, 5, none⟩) hb _
theorem event_close {R : Ending → World → Prop} {w' : World} {b : Nat} {e : Ev} {A : Option Addr} {c : Nat} {tmps : Array Value} (h6 : tmps[6]?.getD undef = .pointer (some ⟨b, 0, none⟩)) (he : IsEv w' b e A c)
    (hR : R (.returned (.agg (evCells e A c))) w') : bodyPost Tryd.prog Tryd.f27 R .ret { tmps := tmps, defers := [] } w' := by
  obtain ⟨c0, c1, c2, c3, c4, c5, _⟩ := ev_cells he
  refine bodyPost_ret (v := .agg (evCells e A c)) ?_ rfl hR
  simp [results, Tryd.results27, go_sem, h6, c0, c1, c2, c3, c4, c5, evCells]

end Go.Proofs.YtokioddaonknpaaDoor.A
