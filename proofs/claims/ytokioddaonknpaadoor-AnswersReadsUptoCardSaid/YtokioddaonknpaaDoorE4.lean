/- Own text: the walk of answers.Event at the kinds of two parts; its contract. -/
import Derived.Test.YtokioddaonknpaaDoorE3
namespace Go.Proofs.YtokioddaonknpaaDoor.A
open Go.RowKit Go.Proofs.YtokioddaonknpaaDoorW.PrintWords Go.Proofs.YtokioddaonknpaaDoor.PAnswersReads
set_option linter.unusedSimpArgs false

theorem stateL_len (n : Int) : (stateL n).length ≤ 9 := by
  unfold stateL
  repeat' split
  all_goals decide
theorem drawn_below {w w' : World} (h : Drawn0 w w') : Below w.heap.size w w' := by
  obtain ⟨⟨n, rfl⟩⟩ := h
  exact pw_below_drewN (Below.refl _ _) _
theorem fresh1 (W : World) (a : Int) : Kd.C (Kd.int .i64) (W.alloc (.cells #[.int .i64 a] 3)) (some ⟨W.heap.size, 0, none⟩) 1 [a] := fresh_C [a] (by simp) W 3
theorem fresh2 (W : World) (a b : Int) : Kd.C (Kd.int .i64) (W.alloc (.cells #[.int .i64 a, .int .i64 b] 3)) (some ⟨W.heap.size, 0, none⟩) 2 [a, b] := fresh_C [a, b] (by simp) W 3
theorem nums_at (n : Nat) (l : List Int) (hn : l.length = n) (hl : n ≤ 100) (hr : ∀ n ∈ l, Rng n) (x : ByteArray) (hx : x = ofL (numsL l)) (A : Option Addr) (W : World) (hE : Env W) (hC : Kd.C (Kd.int .i64) W A n l) :
    Calls Tryd.prog 17 #[.slice A n n] W fun e w' => e = .returned (.string x) ∧ Below W.heap.size W w' := by
  subst hx
  subst hn
  exact numbers_any A l.length l W hE hC (Nat.le_refl _) (by omega) hr

set_option maxHeartbeats 8000000 in
set_option maxRecDepth 100000 in
theorem event_start (e : Ev) (A : Option Addr) (c : Nat) (w : World) (hE : Env w) (hr : EvR e) (hC : Kd.C (Kd.int .i64) w A e.list.length e.list) (hc : e.list.length ≤ c) (hl : e.list.length ≤ 4294967296) (h : okP e) (hk : e.kind = 2) :
    Calls Tryd.prog 7 #[.agg (evCells e A c)] w (EvPost (evA e) w) := by
  have HK := Aside0.mk hk
  clear hk
  have hA : evA e = (evT e, 0) := if_pos h
  have hd : decide (okP e) = true := decide_eq_true h
  have hB0 := (Below.refl w.heap.size w).alloc (Nat.le_refl _) (.cells (evCells e A c) 24)
  have hR := right_any e A c _ (Kd.C_below hC hB0) hc hl
  rw [hd] at hR
  have HR := Lib.hid hR
  have HB0 := Aside0.mk hB0
  have HE0 := Aside0.mk (alloc_ev (w := w) rfl e A c)
  obtain ⟨c0, c1, c2, c3, c4, c5, cf⟩ := ev_cells HE0.out
  rw [hA]
  have HE := Aside0.mk hE
  have HC := Aside0.mk hC
  clear hR hB0 hd hA h hC hE
  go_enter Tryd.func7, Tryd.ntmps7
  go_wp2_with (go_at_call 16; refine HR.out.mono ?_; rintro x w1 ⟨rfl, hb1⟩; refine Hid.out ?_)
  refine Lib.hid ?_
  have hE1 := ev_below HE0.out hb1
  have hB1 := HB0.out.trans (hb1.mono HB0.out.size)
  have HV1 := Aside0.mk (HE.out.step hB1)
  have HC1 := Aside0.mk (Kd.C_below HC.out hB1)
  have HB1 := Aside0.mk hB1
  clear c0 c1 c2 c3 c4 c5 cf hb1 hB1 HE0 HB0
  obtain ⟨c0, c1, c2, c3, c4, c5, cf⟩ := ev_cells hE1
  clear hE1
  obtain ⟨rj, rt, rn, rl, rls⟩ := hr
  have hk := HK.out
  have ht := Aside0.mk (evT2 hk)
  have hsz : (ofL (numsL [e.job, e.tm])).size ≤ 44 := by rw [ofL_size]; exact numsL_len _ (rng_mem2 rj rt)
  obtain ⟨x, hx⟩ : ∃ x, x = ofL (numsL [e.job, e.tm]) := ⟨_, rfl⟩
  have hN := Lib.hid (nums_at 2 [e.job, e.tm] rfl (by omega) (rng_mem2 rj rt) x hx)
  rw [← hx] at ht hsz
  have hxy : (⟨#[115, 116, 97, 114, 116]⟩ ++ x : ByteArray).size ≤ 49 := by rw [ByteArray.size_append]; show 5 + x.size ≤ _; omega
  have hsz2 : (ofL (numsL e.list)).size ≤ 94489280512 := by rw [ofL_size]; have := numsL_len _ rls; omega
  obtain ⟨y, hy⟩ : ∃ y, y = ofL (numsL e.list) := ⟨_, rfl⟩
  have hM := Lib.hid (fun W hE hC => numbers_any A c e.list W hE hC hc hl rls)
  rw [← hy] at ht hsz2 hM
  have q1 : (9223372036854775807 < (⟨#[115, 116, 97, 114, 116]⟩ : ByteArray).size + x.size) = False := eq_false (by show ¬ (_ < 5 + x.size); omega)
  have q2 : (9223372036854775807 < 5 + x.size) = False := eq_false (by omega)
  have q3 : (9223372036854775807 < (⟨#[115, 116, 97, 114, 116]⟩ ++ x : ByteArray).size + y.size) = False := eq_false (by omega)
  have q4 : (9223372036854775807 < 5 + x.size + y.size) = False := eq_false (by omega)
  rw [hk] at c0
  clear hx hy hk rls
  go_wp2
  go_region_held3 (fun w' => w'.cell? ⟨w.heap.size, 0, none⟩ = some (.int .i64 2) ∧ w'.cell? ⟨w.heap.size, 1, none⟩ = some (.int .i64 e.job) ∧ w'.cell? ⟨w.heap.size, 2, none⟩ = some (.int .i64 e.tm) ∧ w'.cell? ⟨w.heap.size, 5, none⟩ = some (.slice A e.list.length c))
    (first | (go_split_ands; (with_reducible refine ⟨?_, ?_, ?_, ?_⟩) <;> (with_reducible refine (hbI.cell (p := ⟨w.heap.size, _, none⟩) ?_).trans ?_) <;> first | (with_reducible assumption) | (exact World.block_lt_of_cell? _ _ (by with_reducible assumption))) | go_keep)
    (first | (go_at_call 17; with_reducible refine Calls.mono (hM.out _ ?ae ?ac) ?_; (case ae => refine HV1.out.step ?_; with_reducible repeat (first | exact Below.refl _ _ | assumption | refine below_alloc ?_ _ | refine below_drew ?_ | refine pw_below_drewN ?_ _)); (case ac => refine Kd.C_below HC1.out ?_; with_reducible repeat (first | exact Below.refl _ _ | assumption | refine below_alloc ?_ _ | refine below_drew ?_ | refine pw_below_drewN ?_ _)); rintro e4 w4 ⟨rfl, hbI⟩; have hb4 : Below w1.heap.size w1 w4 := below_step (by with_reducible repeat (first | exact Below.refl _ _ | assumption | refine below_alloc ?_ _ | refine below_drew ?_ | refine pw_below_drewN ?_ _)) hbI) | (go_at_call 17; with_reducible refine Calls.mono (hN.out (some ⟨w1.heap.size, 0, none⟩) _ ?ae ?ac) ?_; (case ae => refine HV1.out.step ?_; with_reducible repeat (first | exact Below.refl _ _ | assumption | refine below_alloc ?_ _ | refine below_drew ?_ | refine pw_below_drewN ?_ _)); (case ac => (with_reducible repeat (first | refine Kd.C_drew ?_ | refine Kd.C_drewN ?_ _)); exact fresh2 _ _ _); rintro e4 w4 ⟨rfl, hbI⟩; have hb4 : Below w1.heap.size w1 w4 := below_step (by with_reducible repeat (first | exact Below.refl _ _ | assumption | refine below_alloc ?_ _ | refine below_drew ?_ | refine pw_below_drewN ?_ _)) hbI))
  go_wp2
  go_ret2
  refine ⟨?_, below_step HB1.out ?_⟩
  · rw [ht.out]
    rfl
  · exact hb4

set_option maxHeartbeats 8000000 in
set_option maxRecDepth 100000 in
theorem event_end (e : Ev) (A : Option Addr) (c : Nat) (w : World) (hE : Env w) (hr : EvR e) (hC : Kd.C (Kd.int .i64) w A e.list.length e.list) (hc : e.list.length ≤ c) (hl : e.list.length ≤ 4294967296) (h : okP e) (hk : e.kind = 3) :
    Calls Tryd.prog 7 #[.agg (evCells e A c)] w (EvPost (evA e) w) := by
  have HK := Aside0.mk hk
  clear hk
  have hA : evA e = (evT e, 0) := if_pos h
  have hd : decide (okP e) = true := decide_eq_true h
  have hB0 := (Below.refl w.heap.size w).alloc (Nat.le_refl _) (.cells (evCells e A c) 24)
  have hR := right_any e A c _ (Kd.C_below hC hB0) hc hl
  rw [hd] at hR
  have HR := Lib.hid hR
  have HB0 := Aside0.mk hB0
  have HE0 := Aside0.mk (alloc_ev (w := w) rfl e A c)
  obtain ⟨c0, c1, c2, c3, c4, c5, cf⟩ := ev_cells HE0.out
  rw [hA]
  have HE := Aside0.mk hE
  have HC := Aside0.mk hC
  clear hR hB0 hd hA h hC hE
  go_enter Tryd.func7, Tryd.ntmps7
  go_wp2_with (go_at_call 16; refine HR.out.mono ?_; rintro x w1 ⟨rfl, hb1⟩; refine Hid.out ?_)
  refine Lib.hid ?_
  have hE1 := ev_below HE0.out hb1
  have hB1 := HB0.out.trans (hb1.mono HB0.out.size)
  have HV1 := Aside0.mk (HE.out.step hB1)
  have HC1 := Aside0.mk (Kd.C_below HC.out hB1)
  have HB1 := Aside0.mk hB1
  clear c0 c1 c2 c3 c4 c5 cf hb1 hB1 HE0 HB0
  obtain ⟨c0, c1, c2, c3, c4, c5, cf⟩ := ev_cells hE1
  clear hE1
  obtain ⟨rj, rt, rn, rl, rls⟩ := hr
  have hk := HK.out
  have ht := Aside0.mk (evT3 hk)
  have hsz : (ofL (numsL [e.job, e.tm])).size ≤ 44 := by rw [ofL_size]; exact numsL_len _ (rng_mem2 rj rt)
  obtain ⟨x, hx⟩ : ∃ x, x = ofL (numsL [e.job, e.tm]) := ⟨_, rfl⟩
  have hN := Lib.hid (nums_at 2 [e.job, e.tm] rfl (by omega) (rng_mem2 rj rt) x hx)
  rw [← hx] at ht hsz
  have hxy : (⟨#[101, 110, 100]⟩ ++ x : ByteArray).size ≤ 47 := by rw [ByteArray.size_append]; show 3 + x.size ≤ _; omega
  have hsz2 : (ofL (stateL e.nodes)).size ≤ 9 := by rw [ofL_size]; exact stateL_len _
  obtain ⟨y, hy⟩ : ∃ y, y = ofL (stateL e.nodes) := ⟨_, rfl⟩
  have hM := Lib.hid (fun W => state_any e.nodes W)
  rw [← hy] at ht hsz2 hM
  have hxz : (⟨#[101, 110, 100]⟩ ++ x ++ (⟨#[32]⟩ : ByteArray)).size ≤ 48 := by rw [ByteArray.size_append]; show _ + 1 ≤ _; omega
  have q1 : (9223372036854775807 < (⟨#[101, 110, 100]⟩ : ByteArray).size + x.size) = False := eq_false (by show ¬ (_ < 3 + x.size); omega)
  have q2 : (9223372036854775807 < 3 + x.size) = False := eq_false (by omega)
  have q3 : (9223372036854775807 < (⟨#[101, 110, 100]⟩ ++ x : ByteArray).size + 1) = False := eq_false (by omega)
  have q4 : (9223372036854775807 < 3 + x.size + 1) = False := eq_false (by omega)
  have q5 : (9223372036854775807 < (⟨#[101, 110, 100]⟩ ++ x ++ (⟨#[32]⟩ : ByteArray)).size + y.size) = False := eq_false (by omega)
  have q6 : (9223372036854775807 < 3 + x.size + 1 + y.size) = False := eq_false (by omega)
  rw [hk] at c0
  clear hx hy hk rls
  go_wp2
  go_region_held3 (fun w' => w'.cell? ⟨w.heap.size, 0, none⟩ = some (.int .i64 3) ∧ w'.cell? ⟨w.heap.size, 1, none⟩ = some (.int .i64 e.job) ∧ w'.cell? ⟨w.heap.size, 2, none⟩ = some (.int .i64 e.tm) ∧ w'.cell? ⟨w.heap.size, 3, none⟩ = some (.int .i64 e.nodes))
    (first | (go_split_ands; (with_reducible refine ⟨?_, ?_, ?_, ?_⟩) <;> (with_reducible refine (hbI.cell (p := ⟨w.heap.size, _, none⟩) ?_).trans ?_) <;> first | (with_reducible assumption) | (exact World.block_lt_of_cell? _ _ (by with_reducible assumption))) | go_keep)
    (first | (go_at_call 17; with_reducible refine Calls.mono (hN.out (some ⟨w1.heap.size, 0, none⟩) _ ?ae ?ac) ?_; (case ae => refine HV1.out.step ?_; with_reducible repeat (first | exact Below.refl _ _ | assumption | refine below_alloc ?_ _ | refine below_drew ?_ | refine pw_below_drewN ?_ _)); (case ac => (with_reducible repeat (first | refine Kd.C_drew ?_ | refine Kd.C_drewN ?_ _)); exact fresh2 _ _ _); rintro e4 w4 ⟨rfl, hbI⟩; have hb4 : Below w1.heap.size w1 w4 := below_step (by with_reducible repeat (first | exact Below.refl _ _ | assumption | refine below_alloc ?_ _ | refine below_drew ?_ | refine pw_below_drewN ?_ _)) hbI) | (go_at_call 18; refine (hM.out _).mono ?_; rintro e4 w4 ⟨rfl, hD4⟩; have hbI := drawn_below hD4; have hb4 : Below w1.heap.size w1 w4 := below_step (by with_reducible repeat (first | exact Below.refl _ _ | assumption | refine below_alloc ?_ _ | refine below_drew ?_ | refine pw_below_drewN ?_ _)) hbI))
  go_wp2
  go_ret2
  refine ⟨?_, below_step HB1.out ?_⟩
  · rw [ht.out]
    rfl
  · exact hb4

set_option maxHeartbeats 8000000 in
set_option maxRecDepth 100000 in
theorem event_pass (e : Ev) (A : Option Addr) (c : Nat) (w : World) (hE : Env w) (hr : EvR e) (hC : Kd.C (Kd.int .i64) w A e.list.length e.list) (hc : e.list.length ≤ c) (hl : e.list.length ≤ 4294967296) (h : okP e) (hk : e.kind = 5) :
    Calls Tryd.prog 7 #[.agg (evCells e A c)] w (EvPost (evA e) w) := by
  have HK := Aside0.mk hk
  clear hk
  have hA : evA e = (evT e, 0) := if_pos h
  have hd : decide (okP e) = true := decide_eq_true h
  have hB0 := (Below.refl w.heap.size w).alloc (Nat.le_refl _) (.cells (evCells e A c) 24)
  have hR := right_any e A c _ (Kd.C_below hC hB0) hc hl
  rw [hd] at hR
  have HR := Lib.hid hR
  have HB0 := Aside0.mk hB0
  have HE0 := Aside0.mk (alloc_ev (w := w) rfl e A c)
  obtain ⟨c0, c1, c2, c3, c4, c5, cf⟩ := ev_cells HE0.out
  rw [hA]
  have HE := Aside0.mk hE
  have HC := Aside0.mk hC
  clear hR hB0 hd hA h hC hE
  go_enter Tryd.func7, Tryd.ntmps7
  go_wp2_with (go_at_call 16; refine HR.out.mono ?_; rintro x w1 ⟨rfl, hb1⟩; refine Hid.out ?_)
  refine Lib.hid ?_
  have hE1 := ev_below HE0.out hb1
  have hB1 := HB0.out.trans (hb1.mono HB0.out.size)
  have HV1 := Aside0.mk (HE.out.step hB1)
  have HC1 := Aside0.mk (Kd.C_below HC.out hB1)
  have HB1 := Aside0.mk hB1
  clear c0 c1 c2 c3 c4 c5 cf hb1 hB1 HE0 HB0
  obtain ⟨c0, c1, c2, c3, c4, c5, cf⟩ := ev_cells hE1
  clear hE1
  obtain ⟨rj, rt, rn, rl, rls⟩ := hr
  have hk := HK.out
  have ht := Aside0.mk (evT5 hk)
  have hsz : (ofL (numsL [e.tm])).size ≤ 22 := by rw [ofL_size]; exact numsL_len _ (rng_mem1 rt)
  obtain ⟨x, hx⟩ : ∃ x, x = ofL (numsL [e.tm]) := ⟨_, rfl⟩
  have hN := Lib.hid (nums_at 1 [e.tm] rfl (by omega) (rng_mem1 rt) x hx)
  rw [← hx] at ht hsz
  have hxy : (⟨#[112, 97, 115, 115]⟩ ++ x : ByteArray).size ≤ 26 := by rw [ByteArray.size_append]; show 4 + x.size ≤ _; omega
  have hsz2 : (ofL (numsL e.list)).size ≤ 94489280512 := by rw [ofL_size]; have := numsL_len _ rls; omega
  obtain ⟨y, hy⟩ : ∃ y, y = ofL (numsL e.list) := ⟨_, rfl⟩
  have hM := Lib.hid (fun W hE hC => numbers_any A c e.list W hE hC hc hl rls)
  rw [← hy] at ht hsz2 hM
  have q1 : (9223372036854775807 < (⟨#[112, 97, 115, 115]⟩ : ByteArray).size + x.size) = False := eq_false (by show ¬ (_ < 4 + x.size); omega)
  have q2 : (9223372036854775807 < 4 + x.size) = False := eq_false (by omega)
  have q3 : (9223372036854775807 < (⟨#[112, 97, 115, 115]⟩ ++ x : ByteArray).size + y.size) = False := eq_false (by omega)
  have q4 : (9223372036854775807 < 4 + x.size + y.size) = False := eq_false (by omega)
  rw [hk] at c0
  clear hx hy hk rls
  go_wp2
  go_region_held3 (fun w' => w'.cell? ⟨w.heap.size, 0, none⟩ = some (.int .i64 5) ∧ w'.cell? ⟨w.heap.size, 1, none⟩ = some (.int .i64 e.job) ∧ w'.cell? ⟨w.heap.size, 2, none⟩ = some (.int .i64 e.tm) ∧ w'.cell? ⟨w.heap.size, 5, none⟩ = some (.slice A e.list.length c))
    (first | (go_split_ands; (with_reducible refine ⟨?_, ?_, ?_, ?_⟩) <;> (with_reducible refine (hbI.cell (p := ⟨w.heap.size, _, none⟩) ?_).trans ?_) <;> first | (with_reducible assumption) | (exact World.block_lt_of_cell? _ _ (by with_reducible assumption))) | go_keep)
    (first | (go_at_call 17; with_reducible refine Calls.mono (hM.out _ ?ae ?ac) ?_; (case ae => refine HV1.out.step ?_; with_reducible repeat (first | exact Below.refl _ _ | assumption | refine below_alloc ?_ _ | refine below_drew ?_ | refine pw_below_drewN ?_ _)); (case ac => refine Kd.C_below HC1.out ?_; with_reducible repeat (first | exact Below.refl _ _ | assumption | refine below_alloc ?_ _ | refine below_drew ?_ | refine pw_below_drewN ?_ _)); rintro e4 w4 ⟨rfl, hbI⟩; have hb4 : Below w1.heap.size w1 w4 := below_step (by with_reducible repeat (first | exact Below.refl _ _ | assumption | refine below_alloc ?_ _ | refine below_drew ?_ | refine pw_below_drewN ?_ _)) hbI) | (go_at_call 17; with_reducible refine Calls.mono (hN.out (some ⟨w1.heap.size, 0, none⟩) _ ?ae ?ac) ?_; (case ae => refine HV1.out.step ?_; with_reducible repeat (first | exact Below.refl _ _ | assumption | refine below_alloc ?_ _ | refine below_drew ?_ | refine pw_below_drewN ?_ _)); (case ac => (with_reducible repeat (first | refine Kd.C_drew ?_ | refine Kd.C_drewN ?_ _)); exact fresh1 _ _); rintro e4 w4 ⟨rfl, hbI⟩; have hb4 : Below w1.heap.size w1 w4 := below_step (by with_reducible repeat (first | exact Below.refl _ _ | assumption | refine below_alloc ?_ _ | refine below_drew ?_ | refine pw_below_drewN ?_ _)) hbI))
  go_wp2
  go_ret2
  refine ⟨?_, below_step HB1.out ?_⟩
  · rw [ht.out]
    rfl
  · exact hb4

theorem event_any (e : Ev) (A : Option Addr) (c : Nat) (w : World) (hE : Env w) (hr : EvR e) (hC : Kd.C (Kd.int .i64) w A e.list.length e.list) (hc : e.list.length ≤ c) (hl : e.list.length ≤ 4294967296) :
    Calls Tryd.prog 7 #[.agg (evCells e A c)] w (EvPost (evA e) w) := by
  by_cases h : okP e
  · rcases okP_kind h with hk | hk | hk | hk | hk | hk | hk
    · exact event_one e A c w hE hr hC hc hl h (.inl hk)
    · exact event_start e A c w hE hr hC hc hl h hk
    · exact event_end e A c w hE hr hC hc hl h hk
    · exact event_one e A c w hE hr hC hc hl h (.inr (.inl hk))
    · exact event_pass e A c w hE hr hC hc hl h hk
    · exact event_one e A c w hE hr hC hc hl h (.inr (.inr (.inl hk)))
    · exact event_one e A c w hE hr hC hc hl h (.inr (.inr (.inr hk)))
  · exact event_bad e A c w hC hc hl h

end Go.Proofs.YtokioddaonknpaaDoor.A
