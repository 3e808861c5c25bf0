/- Own text: an event in memory; the walk of answers.Event. -/
import Derived.Test.YtokioddaonknpaaDoorE2
import Derived.Deep.RegionHeld3
namespace Go.Proofs.YtokioddaonknpaaDoor.A
open Go.RowKit Go.Proofs.YtokioddaonknpaaDoorW.PrintWords Go.Proofs.YtokioddaonknpaaDoor.PAnswersReads
set_option linter.unusedSimpArgs false

def evCells (e : Ev) (A : Option Addr) (c : Nat) : Array Value := #[.int .i64 e.kind, .int .i64 e.job, .int .i64 e.tm, .int .i64 e.nodes, .int .i64 e.limit, .slice A e.list.length c]
def IsEv (w : World) (b : Nat) (e : Ev) (A : Option Addr) (c : Nat) : Prop := w.heap[b]? = some (.cells (evCells e A c) 24 (0, 0))
theorem ev_cells {w : World} {b : Nat} {e : Ev} {A : Option Addr} {c : Nat} (h : IsEv w b e A c) : w.cell? ⟨b, 0, none⟩ = some (.int .i64 e.kind) ∧ w.cell? ⟨b, 1, none⟩ = some (.int .i64 e.job) ∧ w.cell? ⟨b, 2, none⟩ = some (.int .i64 e.tm) ∧ w.cell? ⟨b, 3, none⟩ = some (.int .i64 e.nodes) ∧ w.cell? ⟨b, 4, none⟩ = some (.int .i64 e.limit) ∧ w.cell? ⟨b, 5, none⟩ = some (.slice A e.list.length c) ∧ ∀ j, w.frozen? ⟨b, j, none⟩ = false :=
  ⟨blk_cell h 0, blk_cell h 1, blk_cell h 2, blk_cell h 3, blk_cell h 4, blk_cell h 5, fun j => blk_frozen h j⟩
theorem ev_below {w w' : World} {b : Nat} {e : Ev} {A : Option Addr} {c : Nat} (h : IsEv w b e A c) (hg : Below w.heap.size w w') : IsEv w' b e A c :=
  (hg.block b (blk_lt h)).trans h
theorem alloc_ev {w : World} {n : Nat} (h : w.heap.size = n) (e : Ev) (A : Option Addr) (c : Nat) : IsEv (w.alloc (.cells (evCells e A c) 24)) n e A c := by
  subst h
  exact heap_alloc_new w _

/-- A row of numbers just made. -/
theorem fresh_C (l : List Int) (hl : l.length ≤ 100) (w : World) (t : TypeId) : Kd.C (Kd.int .i64) (w.alloc (.cells (l.map (Value.int .i64)).toArray t)) (some ⟨w.heap.size, 0, none⟩) l.length l := by
  refine Kd.C_of_reads (d := (0 : Int)) ⟨rfl, by omega, fun _ => ⟨_, rfl, fun j hj => ?_⟩⟩
  rw [add_plain]
  refine (cell_of_row _ _ j _ _ _ (heap_alloc_new w _)).trans ?_
  simp [List.getD_eq_getElem?_getD, List.getElem?_eq_getElem hj]
theorem rng_mem1 {a : Int} (ha : Rng a) : ∀ n ∈ [a], Rng n := by intro n hn; simp at hn; subst hn; exact ha
theorem rng_mem2 {a b : Int} (ha : Rng a) (hb : Rng b) : ∀ n ∈ [a, b], Rng n := by intro n hn; simp at hn; rcases hn with rfl | rfl; exact ha; exact hb
theorem rng_mem4 {a b c d : Int} (ha : Rng a) (hb : Rng b) (hc : Rng c) (hd : Rng d) : ∀ n ∈ [a, b, c, d], Rng n := by
  intro n hn
  simp at hn
  rcases hn with rfl | rfl | rfl | rfl
  · exact ha
  · exact hb
  · exact hc
  · exact hd
theorem nums_fresh (l : List Int) (hl : l.length ≤ 100) (hr : ∀ n ∈ l, Rng n) (w : World) (t : TypeId) (hE : Env w) :
    Calls Tryd.prog 17 #[.slice (some ⟨w.heap.size, 0, none⟩) l.length l.length] (w.alloc (.cells (l.map (Value.int .i64)).toArray t)) fun e w' => e = .returned (.string (ofL (numsL l))) ∧ Below w.heap.size w w' :=
  (numbers_any _ _ l _ (hE.step ((Below.refl _ _).alloc (Nat.le_refl _) _)) (fresh_C l hl w t) (Nat.le_refl _) (by omega) hr).mono fun _ _ ⟨h, hb⟩ => ⟨h, ((Below.refl _ w).alloc (Nat.le_refl _) _).trans (hb.mono (by simp))⟩
theorem nums1 (a : Int) (ha : Rng a) (w : World) (hE : Env w) : Calls Tryd.prog 17 #[.slice (some ⟨w.heap.size, 0, none⟩) 1 1] (w.alloc (.cells #[.int .i64 a] 3)) fun e w' => e = .returned (.string (ofL (numsL [a]))) ∧ Below w.heap.size w w' := nums_fresh [a] (by simp) (rng_mem1 ha) w 3 hE
theorem nums2 (a b : Int) (ha : Rng a) (hb : Rng b) (w : World) (hE : Env w) : Calls Tryd.prog 17 #[.slice (some ⟨w.heap.size, 0, none⟩) 2 2] (w.alloc (.cells #[.int .i64 a, .int .i64 b] 3)) fun e w' => e = .returned (.string (ofL (numsL [a, b]))) ∧ Below w.heap.size w w' := nums_fresh [a, b] (by simp) (rng_mem2 ha hb) w 3 hE
theorem nums4 (a b c d : Int) (ha : Rng a) (hb : Rng b) (hc : Rng c) (hd : Rng d) (w : World) (hE : Env w) : Calls Tryd.prog 17 #[.slice (some ⟨w.heap.size, 0, none⟩) 4 4] (w.alloc (.cells #[.int .i64 a, .int .i64 b, .int .i64 c, .int .i64 d] 3)) fun e w' => e = .returned (.string (ofL (numsL [a, b, c, d]))) ∧ Below w.heap.size w w' := nums_fresh [a, b, c, d] (by simp) (rng_mem4 ha hb hc hd) w 3 hE

theorem right_any (e : Ev) (A : Option Addr) (c : Nat) (w : World) (hC : Kd.C (Kd.int .i64) w A e.list.length e.list) (hc : e.list.length ≤ c) (hl : e.list.length ≤ 4294967296) :
    Calls Tryd.prog 16 #[.agg (evCells e A c)] w fun x w' => x = .returned (.bool (decide (okP e))) ∧ Below w.heap.size w w' :=
  answers_right.calls (e.list.length + 7) e.kind e.job e.tm e.nodes e.limit A c e.list _ w hC hc (right_f e (by omega) _ (by omega))
theorem state_any (n : Int) (w : World) : Calls Tryd.prog 18 #[.int .i64 n] w fun e w' => e = .returned (.string (ofL (stateL n))) ∧ Drawn0 w w' := answers_state.calls n _ w (state_f n)

def EvPost (r : List UInt8 × Int) (w : World) (x : Ending) (w' : World) : Prop := x = .returned (.tuple #[.string (ofL r.1), .int .i64 r.2]) ∧ Below w.heap.size w w'

theorem evT1 {e : Ev} (h : e.kind = 1) : ofL (evT e) = ofL wSubmit ++ ofL (numsL [e.job, e.tm, e.nodes, e.limit]) := by
  unfold evT evW
  rw [if_pos h, Lib.join_cons, ofL_app]
  rfl
theorem evT2 {e : Ev} (h : e.kind = 2) : ofL (evT e) = (ofL wStart ++ ofL (numsL [e.job, e.tm])) ++ ofL (numsL e.list) := by
  unfold evT evW
  rw [h]
  show ofL (Lib.join (wStart :: Lib.itoa e.job :: Lib.itoa e.tm :: e.list.map Lib.itoa) [32]) = _
  rw [Lib.join_cons, ofL_app, ofL_app]
  congr 1
  rw [joinTail_cons, joinTail_cons, numsL_cons, numsL_cons]
  simp [numsL, Lib.joinTail]
theorem evT3 {e : Ev} (h : e.kind = 3) : ofL (evT e) = ((ofL wEnd ++ ofL (numsL [e.job, e.tm])) ++ ⟨#[32]⟩) ++ ofL (stateL e.nodes) := by
  unfold evT evW
  rw [h]
  show ofL (Lib.join [wEnd, Lib.itoa e.job, Lib.itoa e.tm, stateL e.nodes] [32]) = _
  have : (⟨#[32]⟩ : ByteArray) = ofL [32] := rfl
  rw [this, Lib.join_cons, ofL_app, ofL_app, ofL_app]
  congr 1
  rw [joinTail_cons, joinTail_cons, joinTail_cons, numsL_cons, numsL_cons]
  simp [numsL, Lib.joinTail]
theorem evT4 {e : Ev} (h : e.kind = 4) : ofL (evT e) = ofL wPin ++ ofL (numsL [e.job, e.tm]) := by
  unfold evT evW
  rw [h]
  show ofL (Lib.join [wPin, Lib.itoa e.job, Lib.itoa e.tm] [32]) = _
  rw [Lib.join_cons, ofL_app]
  rfl
theorem evT5 {e : Ev} (h : e.kind = 5) : ofL (evT e) = (ofL wPass ++ ofL (numsL [e.tm])) ++ ofL (numsL e.list) := by
  unfold evT evW
  rw [h]
  show ofL (Lib.join (wPass :: Lib.itoa e.tm :: e.list.map Lib.itoa) [32]) = _
  rw [Lib.join_cons, ofL_app, ofL_app]
  congr 1
  rw [joinTail_cons, numsL_cons]
  simp [numsL, Lib.joinTail]
theorem evT6 {e : Ev} (h : e.kind = 6) : ofL (evT e) = ofL wTick ++ ofL (numsL [e.tm]) := by
  unfold evT evW
  rw [h]
  show ofL (Lib.join [wTick, Lib.itoa e.tm] [32]) = _
  rw [Lib.join_cons, ofL_app]
  rfl
theorem evT7 {e : Ev} (h : e.kind = 7) : ofL (evT e) = ofL wDecay ++ ofL (numsL [e.tm]) := by
  unfold evT evW
  rw [h]
  show ofL (Lib.join [wDecay, Lib.itoa e.tm] [32]) = _
  rw [Lib.join_cons, ofL_app]
  rfl

set_option maxHeartbeats 8000000 in
set_option maxRecDepth 100000 in
theorem event_bad (e : Ev) (A : Option Addr) (c : Nat) (w : World) (hC : Kd.C (Kd.int .i64) w A e.list.length e.list) (hc : e.list.length ≤ c) (hl : e.list.length ≤ 4294967296) (h : ¬ okP e) :
    Calls Tryd.prog 7 #[.agg (evCells e A c)] w (EvPost (evA e) w) := by
  have hA : evA e = ([], 90) := if_neg h
  have hd : decide (okP e) = false := decide_eq_false h
  have hB0 := (Below.refl w.heap.size w).alloc (Nat.le_refl _) (.cells (evCells e A c) 24)
  have hR := right_any e A c _ (Kd.C_below hC hB0) hc hl
  rw [hd] at hR
  have HR := Lib.hid hR
  have HB0 := Aside0.mk hB0
  obtain ⟨c0, c1, c2, c3, c4, c5, cf⟩ := ev_cells (alloc_ev (w := w) rfl e A c)
  rw [hA]
  clear hR hB0 hd hA h hC
  go_enter Tryd.func7, Tryd.ntmps7
  go_wp2_with (go_at_call 16; refine HR.out.mono ?_; rintro x w1 ⟨rfl, hb1⟩)
  go_ret2
  exact ⟨rfl, HB0.out.trans (hb1.mono HB0.out.size)⟩

set_option maxHeartbeats 8000000 in
set_option maxRecDepth 100000 in
theorem event_one (e : Ev) (A : Option Addr) (c : Nat) (w : World) (hE : Env w) (hr : EvR e) (hC : Kd.C (Kd.int .i64) w A e.list.length e.list) (hc : e.list.length ≤ c) (hl : e.list.length ≤ 4294967296) (h : okP e) (hk : e.kind = 1 ∨ e.kind = 4 ∨ e.kind = 6 ∨ e.kind = 7) :
    Calls Tryd.prog 7 #[.agg (evCells e A c)] w (EvPost (evA e) w) := by
  have hA : evA e = (evT e, 0) := if_pos h
  have hd : decide (okP e) = true := decide_eq_true h
  have hB0 := (Below.refl w.heap.size w).alloc (Nat.le_refl _) (.cells (evCells e A c) 24)
  have hR := right_any e A c _ (Kd.C_below hC hB0) hc hl
  rw [hd] at hR
  have HR := Lib.hid hR
  have HB0 := Aside0.mk hB0
  have HE0 := Aside0.mk (alloc_ev (w := w) rfl e A c)
  obtain ⟨c0, c1, c2, c3, c4, c5, cf⟩ := ev_cells HE0.out
  rw [hA]
  have HE := Aside0.mk hE
  clear hR hB0 hd hA h hC hE
  go_enter Tryd.func7, Tryd.ntmps7
  go_wp2_with (go_at_call 16; refine HR.out.mono ?_; rintro x w1 ⟨rfl, hb1⟩; refine Hid.out ?_)
  refine Lib.hid ?_
  have hE1 := ev_below HE0.out hb1
  have hB1 := HB0.out.trans (hb1.mono HB0.out.size)
  have HV1 := Aside0.mk (HE.out.step hB1)
  have HB1 := Aside0.mk hB1
  clear c0 c1 c2 c3 c4 c5 cf hb1 hB1 HE0 HB0
  obtain ⟨c0, c1, c2, c3, c4, c5, cf⟩ := ev_cells hE1
  obtain ⟨rj, rt, rn, rl, _⟩ := hr
  rcases hk with hk | hk | hk | hk
  · have ht := Aside0.mk (evT1 hk)
    have hsz : (ofL (numsL [e.job, e.tm, e.nodes, e.limit])).size ≤ 88 := by rw [ofL_size]; exact numsL_len _ (rng_mem4 rj rt rn rl)
    obtain ⟨x, hx⟩ : ∃ x, x = ofL (numsL [e.job, e.tm, e.nodes, e.limit]) := ⟨_, rfl⟩
    have hN := Lib.hid (fun W hE => nums4 e.job e.tm e.nodes e.limit rj rt rn rl W hE)
    rw [← hx] at ht hsz hN
    rw [hk] at c0
    clear hx hk
    go_wp2_with (go_at_call 17; refine (hN.out _ HV1.out).mono ?_; rintro x w2 ⟨rfl, hb2⟩)
    go_ret2
    refine ⟨?_, HB1.out.trans (hb2.mono HB1.out.size)⟩
    rw [ht.out]
    rfl
  · have ht := Aside0.mk (evT4 hk)
    have hsz : (ofL (numsL [e.job, e.tm])).size ≤ 44 := by rw [ofL_size]; exact numsL_len _ (rng_mem2 rj rt)
    obtain ⟨x, hx⟩ : ∃ x, x = ofL (numsL [e.job, e.tm]) := ⟨_, rfl⟩
    have hN := Lib.hid (fun W hE => nums2 e.job e.tm rj rt W hE)
    rw [← hx] at ht hsz hN
    rw [hk] at c0
    clear hx hk
    go_wp2_with (go_at_call 17; refine (hN.out _ HV1.out).mono ?_; rintro x w2 ⟨rfl, hb2⟩)
    go_ret2
    refine ⟨?_, HB1.out.trans (hb2.mono HB1.out.size)⟩
    rw [ht.out]
    rfl
  · have ht := Aside0.mk (evT6 hk)
    have hsz : (ofL (numsL [e.tm])).size ≤ 22 := by rw [ofL_size]; exact numsL_len _ (rng_mem1 rt)
    obtain ⟨x, hx⟩ : ∃ x, x = ofL (numsL [e.tm]) := ⟨_, rfl⟩
    have hN := Lib.hid (fun W hE => nums1 e.tm rt W hE)
    rw [← hx] at ht hsz hN
    rw [hk] at c0
    clear hx hk
    go_wp2_with (go_at_call 17; refine (hN.out _ HV1.out).mono ?_; rintro x w2 ⟨rfl, hb2⟩)
    go_ret2
    refine ⟨?_, HB1.out.trans (hb2.mono HB1.out.size)⟩
    rw [ht.out]
    rfl
  · have ht := Aside0.mk (evT7 hk)
    have hsz : (ofL (numsL [e.tm])).size ≤ 22 := by rw [ofL_size]; exact numsL_len _ (rng_mem1 rt)
    obtain ⟨x, hx⟩ : ∃ x, x = ofL (numsL [e.tm]) := ⟨_, rfl⟩
    have hN := Lib.hid (fun W hE => nums1 e.tm rt W hE)
    rw [← hx] at ht hsz hN
    rw [hk] at c0
    clear hx hk
    go_wp2_with (go_at_call 17; refine (hN.out _ HV1.out).mono ?_; rintro x w2 ⟨rfl, hb2⟩)
    go_ret2
    refine ⟨?_, HB1.out.trans (hb2.mono HB1.out.size)⟩
    rw [ht.out]
    rfl

end Go.Proofs.YtokioddaonknpaaDoor.A
