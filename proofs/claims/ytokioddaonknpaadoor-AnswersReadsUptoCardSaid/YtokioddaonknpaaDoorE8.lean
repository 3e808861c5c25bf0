/- Own text (printed by gen7.py): the walk of answers.event, the other kinds; all of them. -/
import Derived.Test.YtokioddaonknpaaDoorE7
namespace Go.Proofs.YtokioddaonknpaaDoor.A
open Go.RowKit Go.Proofs.YtokioddaonknpaaDoorW.PrintWords Go.Proofs.YtokioddaonknpaaDoor.PAnswersReads
set_option linter.unusedSimpArgs false

set_option maxHeartbeats 8000000 in
set_option maxRecDepth 100000 in
theorem event_k1 (A : Option Addr) (c : Nat) (ws : List ByteArray) (A2 : Option Addr) (c2 : Nat) (n : List Int) (d : Int) (e : Ev) (hev : e = ⟨1, (n.getD 0 0), (n.getD 1 0), (n.getD 2 0), (n.getD 3 0), []⟩) (w : World) (h0 : 0 < ws.length) (hx : ∃ ad, A = some ad ∧ w.cell? ad = some (.string ⟨#[115, 117, 98, 109, 105, 116]⟩)) (hn : 4 ≤ n.length) (hC : Kd.C (Kd.int .i64) w A2 n.length n) :
    Calls Tryd.prog 27 #[.slice A ws.length c, .slice A2 n.length c2, .int .i64 d] w fun x w' => EvOf A2 e w x w' := by
  have HEV := Aside0.mk hev
  clear hev
  obtain ⟨ad, rfl, hc0⟩ := hx
  have i0 : ((ws.length : Int) == 0) = false := by rw [beq_eq_false_iff_ne]; omega
  have i1 : (0 : Int) < (ws.length : Int) := by omega
  have hlt0 := World.block_lt_of_cell? w _ hc0
  have i2 : ((n.length : Int) < 4) = False := eq_false (by omega)
  have i2b : decide ((n.length : Int) < 4) = false := decide_eq_false (by omega)
  have k0 : (0 : Int) < (n.length : Int) := by omega
  obtain ⟨v0, hv0_⟩ : ∃ v, v = n.getD 0 0 := ⟨_, rfl⟩
  have k1 : (1 : Int) < (n.length : Int) := by omega
  obtain ⟨v1, hv1_⟩ : ∃ v, v = n.getD 1 0 := ⟨_, rfl⟩
  have k2 : (2 : Int) < (n.length : Int) := by omega
  obtain ⟨v2, hv2_⟩ : ∃ v, v = n.getD 2 0 := ⟨_, rfl⟩
  have k3 : (3 : Int) < (n.length : Int) := by omega
  obtain ⟨v3, hv3_⟩ : ∃ v, v = n.getD 3 0 := ⟨_, rfl⟩
  obtain ⟨aq, eq, mq⟩ := Kd.at_int hC 0 (by omega) k0
  have hlq : ∀ ad, A2 = some ad → ad.block < w.heap.size := fun ad' h => by rw [eq] at h; injection h with h; rw [← h]; exact World.block_lt_of_cell? w _ mq
  have HC := Aside0.mk hC
  have HV := Aside0.mk (show v0 = n.getD 0 0 ∧ v1 = n.getD 1 0 ∧ v2 = n.getD 2 0 ∧ v3 = n.getD 3 0 ∧ True from ⟨hv0_, hv1_, hv2_, hv3_, trivial⟩)
  clear hC eq mq hv0_ hv1_ hv2_ hv3_
  obtain ⟨b, hb⟩ : ∃ b, b = w.heap.size + 1 := ⟨_, rfl⟩
  go_enter Tryd.func27, Tryd.ntmps27
  go_wp2_with (fail)
  refine wp_gen ?_
  intro W hW
  have HB := Aside0.mk (show Below w.heap.size w W by rw [hW]; exact below_alloc (below_alloc (Below.refl _ w) _) _)
  have HR := Aside0.mk (show IsEv W w.heap.size evZ none 0 by rw [hW]; exact ev_below (alloc_ev (w := w) rfl evZ none 0) ((Below.refl _ _).alloc (Nat.le_refl _) _))
  have HE := Aside0.mk (show IsEv W b ⟨1, 0, 0, 0, 0, []⟩ none 0 by rw [hW, hb]; exact alloc_ev (w := w.alloc (.cells (evCells evZ none 0) 24)) (by simp) ⟨1, 0, 0, 0, 0, []⟩ none 0)
  have Hb := Aside0.mk hb
  clear hW hc0 i0 i1 hlt0
  simp only [← hb]
  clear hb
  obtain ⟨a2, rfl, m0⟩ := Kd.at_int (Kd.C_below HC.out HB.out) 0 (by omega) k0
  obtain ⟨_, e1, m1⟩ := Kd.at_int (Kd.C_below HC.out HB.out) 1 (by omega) k1
  cases e1
  obtain ⟨_, e2, m2⟩ := Kd.at_int (Kd.C_below HC.out HB.out) 2 (by omega) k2
  cases e2
  obtain ⟨_, e3, m3⟩ := Kd.at_int (Kd.C_below HC.out HB.out) 3 (by omega) k3
  cases e3
  replace m0 : W.cell? a2 = some (.int .i64 v0) := Eq.trans m0 (by rw [HV.out.1]; rfl)
  replace m1 : W.cell? ⟨a2.block, a2.off + 1, none⟩ = some (.int .i64 v1) := Eq.trans m1 (by rw [HV.out.2.1]; rfl)
  replace m2 : W.cell? ⟨a2.block, a2.off + 2, none⟩ = some (.int .i64 v2) := Eq.trans m2 (by rw [HV.out.2.2.1]; rfl)
  replace m3 : W.cell? ⟨a2.block, a2.off + 3, none⟩ = some (.int .i64 v3) := Eq.trans m3 (by rw [HV.out.2.2.2.1]; rfl)
  have hlq2 := hlq a2 rfl
  have n1 : a2.block ≠ b := by have := Hb.out; omega
  have n2 : b ≠ a2.block := by have := Hb.out; omega
  obtain ⟨c0, c1, c2', c3, c4, c5, cf⟩ := ev_cells HE.out
  go_region
  go_wp2
  refine wp_gen ?_
  intro W2 hW
  have hBb : Below b W W2 := by rw [hW]; exact (below_drew (((Below.refl b W).setCell (p := ⟨b, 3, none⟩) (Nat.le_refl _) _).setCell (p := ⟨b, 4, none⟩) (Nat.le_refl _) _))
  have HE2 := Aside0.mk (show IsEv W2 b ⟨1, 0, 0, v2, v3, []⟩ none 0 by rw [hW]; exact (ev_put (e' := ⟨1, 0, 0, v2, v3, []⟩) (A' := none) (c' := 0) (ev_put (e' := ⟨1, 0, 0, v2, 0, []⟩) (A' := none) (c' := 0) HE.out 3 (.int .i64 v2) rfl) 4 (.int .i64 v3) rfl))
  have HR2 := Aside0.mk (show IsEv W2 w.heap.size evZ none 0 from (hBb.block _ (by have := Hb.out; omega)).trans HR.out)
  have HB2 := Aside0.mk (HB.out.trans (hBb.mono (by have := Hb.out; omega)))
  clear hW hBb HE HR HB c0 c1 c2' c3 c4 c5 cf m0 m1 m2 m3
  have HE := HE2
  have HR := HR2
  have HB := HB2
  clear HE2 HR2 HB2
  obtain ⟨_, e0, m0⟩ := Kd.at_int (Kd.C_below HC.out HB.out) 0 (by omega) k0
  cases e0
  obtain ⟨_, e1, m1⟩ := Kd.at_int (Kd.C_below HC.out HB.out) 1 (by omega) k1
  cases e1
  obtain ⟨_, e2, m2⟩ := Kd.at_int (Kd.C_below HC.out HB.out) 2 (by omega) k2
  cases e2
  obtain ⟨_, e3, m3⟩ := Kd.at_int (Kd.C_below HC.out HB.out) 3 (by omega) k3
  cases e3
  replace m0 : W2.cell? a2 = some (.int .i64 v0) := Eq.trans m0 (by rw [HV.out.1]; rfl)
  replace m1 : W2.cell? ⟨a2.block, a2.off + 1, none⟩ = some (.int .i64 v1) := Eq.trans m1 (by rw [HV.out.2.1]; rfl)
  replace m2 : W2.cell? ⟨a2.block, a2.off + 2, none⟩ = some (.int .i64 v2) := Eq.trans m2 (by rw [HV.out.2.2.1]; rfl)
  replace m3 : W2.cell? ⟨a2.block, a2.off + 3, none⟩ = some (.int .i64 v3) := Eq.trans m3 (by rw [HV.out.2.2.2.1]; rfl)
  obtain ⟨c0, c1, c2', c3, c4, c5, cf⟩ := ev_cells HE.out
  go_region
  go_upto_region 29 with (fail)
  refine wp_gen ?_
  intro W3 hW
  have hBb : Below b W2 W3 := by rw [hW]; exact (below_drew (((Below.refl b W2).setCell (p := ⟨b, 1, none⟩) (Nat.le_refl _) _).setCell (p := ⟨b, 2, none⟩) (Nat.le_refl _) _))
  have HE2 := Aside0.mk (show IsEv W3 b ⟨1, v0, v1, v2, v3, []⟩ none 0 by rw [hW]; exact (ev_put (e' := ⟨1, v0, v1, v2, v3, []⟩) (A' := none) (c' := 0) (ev_put (e' := ⟨1, v0, 0, v2, v3, []⟩) (A' := none) (c' := 0) HE.out 1 (.int .i64 v0) rfl) 2 (.int .i64 v1) rfl))
  have HR2 := Aside0.mk (show IsEv W3 w.heap.size evZ none 0 from (hBb.block _ (by have := Hb.out; omega)).trans HR.out)
  have HB2 := Aside0.mk (HB.out.trans (hBb.mono (by have := Hb.out; omega)))
  clear hW hBb HE HR HB c0 c1 c2' c3 c4 c5 cf m0 m1 m2 m3
  have HE := HE2
  have HR := HR2
  have HB := HB2
  clear HE2 HR2 HB2
  obtain ⟨_, e0, m0⟩ := Kd.at_int (Kd.C_below HC.out HB.out) 0 (by omega) k0
  cases e0
  obtain ⟨_, e1, m1⟩ := Kd.at_int (Kd.C_below HC.out HB.out) 1 (by omega) k1
  cases e1
  obtain ⟨_, e2, m2⟩ := Kd.at_int (Kd.C_below HC.out HB.out) 2 (by omega) k2
  cases e2
  obtain ⟨_, e3, m3⟩ := Kd.at_int (Kd.C_below HC.out HB.out) 3 (by omega) k3
  cases e3
  replace m0 : W3.cell? a2 = some (.int .i64 v0) := Eq.trans m0 (by rw [HV.out.1]; rfl)
  replace m1 : W3.cell? ⟨a2.block, a2.off + 1, none⟩ = some (.int .i64 v1) := Eq.trans m1 (by rw [HV.out.2.1]; rfl)
  replace m2 : W3.cell? ⟨a2.block, a2.off + 2, none⟩ = some (.int .i64 v2) := Eq.trans m2 (by rw [HV.out.2.2.1]; rfl)
  replace m3 : W3.cell? ⟨a2.block, a2.off + 3, none⟩ = some (.int .i64 v3) := Eq.trans m3 (by rw [HV.out.2.2.2.1]; rfl)
  obtain ⟨c0, c1, c2', c3, c4, c5, cf⟩ := ev_cells HE.out
  obtain ⟨r0, r1, r2, r3, r4, r5, rf⟩ := ev_cells HR.out
  have n3 : b ≠ w.heap.size := by have := Hb.out; omega
  have n4 : w.heap.size ≠ b := by have := Hb.out; omega
  go_wp2
  refine event_close (b := w.heap.size) (e := ⟨1, v0, v1, v2, v3, []⟩) (A := none) (c := 0) rfl (put6_ev HR.out ⟨1, v0, v1, v2, v3, []⟩ none 0) ?_
  obtain ⟨q0, q1, q2, q3, _⟩ := HV.out
  have hfin : e = ⟨1, v0, v1, v2, v3, []⟩ := by rw [HEV.out, ← q0, ← q1, ← q2, ← q3]
  rw [hfin]
  exact ⟨none, 0, rfl, Nat.le_refl _, Kd.C_nil _ _, (fun _ h => by cases h), put6_below HB.out (Nat.le_refl _) ⟨1, v0, v1, v2, v3, []⟩ none 0⟩

set_option maxHeartbeats 8000000 in
set_option maxRecDepth 100000 in
theorem event_k3 (A : Option Addr) (c : Nat) (ws : List ByteArray) (A2 : Option Addr) (c2 : Nat) (n : List Int) (d : Int) (e : Ev) (hev : e = ⟨3, (n.getD 0 0), (n.getD 1 0), d, 0, []⟩) (w : World) (h0 : 0 < ws.length) (hx : ∃ ad, A = some ad ∧ w.cell? ad = some (.string ⟨#[101, 110, 100]⟩)) (hn : 2 ≤ n.length) (hC : Kd.C (Kd.int .i64) w A2 n.length n) :
    Calls Tryd.prog 27 #[.slice A ws.length c, .slice A2 n.length c2, .int .i64 d] w fun x w' => EvOf A2 e w x w' := by
  have HEV := Aside0.mk hev
  clear hev
  obtain ⟨ad, rfl, hc0⟩ := hx
  have i0 : ((ws.length : Int) == 0) = false := by rw [beq_eq_false_iff_ne]; omega
  have i1 : (0 : Int) < (ws.length : Int) := by omega
  have hlt0 := World.block_lt_of_cell? w _ hc0
  have i2 : ((n.length : Int) < 2) = False := eq_false (by omega)
  have i2b : decide ((n.length : Int) < 2) = false := decide_eq_false (by omega)
  have k0 : (0 : Int) < (n.length : Int) := by omega
  obtain ⟨v0, hv0_⟩ : ∃ v, v = n.getD 0 0 := ⟨_, rfl⟩
  have k1 : (1 : Int) < (n.length : Int) := by omega
  obtain ⟨v1, hv1_⟩ : ∃ v, v = n.getD 1 0 := ⟨_, rfl⟩
  obtain ⟨aq, eq, mq⟩ := Kd.at_int hC 0 (by omega) k0
  have hlq : ∀ ad, A2 = some ad → ad.block < w.heap.size := fun ad' h => by rw [eq] at h; injection h with h; rw [← h]; exact World.block_lt_of_cell? w _ mq
  have HC := Aside0.mk hC
  have HV := Aside0.mk (show v0 = n.getD 0 0 ∧ v1 = n.getD 1 0 ∧ True from ⟨hv0_, hv1_, trivial⟩)
  clear hC eq mq hv0_ hv1_
  obtain ⟨b, hb⟩ : ∃ b, b = w.heap.size + 1 := ⟨_, rfl⟩
  go_enter Tryd.func27, Tryd.ntmps27
  go_wp2_with (fail)
  refine wp_gen ?_
  intro W hW
  have HB := Aside0.mk (show Below w.heap.size w W by rw [hW]; exact below_alloc (below_alloc (Below.refl _ w) _) _)
  have HR := Aside0.mk (show IsEv W w.heap.size evZ none 0 by rw [hW]; exact ev_below (alloc_ev (w := w) rfl evZ none 0) ((Below.refl _ _).alloc (Nat.le_refl _) _))
  have HE := Aside0.mk (show IsEv W b ⟨3, 0, 0, d, 0, []⟩ none 0 by rw [hW, hb]; exact alloc_ev (w := w.alloc (.cells (evCells evZ none 0) 24)) (by simp) ⟨3, 0, 0, d, 0, []⟩ none 0)
  have Hb := Aside0.mk hb
  clear hW hc0 i0 i1 hlt0
  simp only [← hb]
  clear hb
  obtain ⟨a2, rfl, m0⟩ := Kd.at_int (Kd.C_below HC.out HB.out) 0 (by omega) k0
  obtain ⟨_, e1, m1⟩ := Kd.at_int (Kd.C_below HC.out HB.out) 1 (by omega) k1
  cases e1
  replace m0 : W.cell? a2 = some (.int .i64 v0) := Eq.trans m0 (by rw [HV.out.1]; rfl)
  replace m1 : W.cell? ⟨a2.block, a2.off + 1, none⟩ = some (.int .i64 v1) := Eq.trans m1 (by rw [HV.out.2.1]; rfl)
  have hlq2 := hlq a2 rfl
  have n1 : a2.block ≠ b := by have := Hb.out; omega
  have n2 : b ≠ a2.block := by have := Hb.out; omega
  obtain ⟨c0, c1, c2', c3, c4, c5, cf⟩ := ev_cells HE.out
  go_region
  go_upto_region 29 with (fail)
  refine wp_gen ?_
  intro W2 hW
  have hBb : Below b W W2 := by rw [hW]; exact (below_drew (((Below.refl b W).setCell (p := ⟨b, 1, none⟩) (Nat.le_refl _) _).setCell (p := ⟨b, 2, none⟩) (Nat.le_refl _) _))
  have HE2 := Aside0.mk (show IsEv W2 b ⟨3, v0, v1, d, 0, []⟩ none 0 by rw [hW]; exact (ev_put (e' := ⟨3, v0, v1, d, 0, []⟩) (A' := none) (c' := 0) (ev_put (e' := ⟨3, v0, 0, d, 0, []⟩) (A' := none) (c' := 0) HE.out 1 (.int .i64 v0) rfl) 2 (.int .i64 v1) rfl))
  have HR2 := Aside0.mk (show IsEv W2 w.heap.size evZ none 0 from (hBb.block _ (by have := Hb.out; omega)).trans HR.out)
  have HB2 := Aside0.mk (HB.out.trans (hBb.mono (by have := Hb.out; omega)))
  clear hW hBb HE HR HB c0 c1 c2' c3 c4 c5 cf m0 m1
  have HE := HE2
  have HR := HR2
  have HB := HB2
  clear HE2 HR2 HB2
  obtain ⟨_, e0, m0⟩ := Kd.at_int (Kd.C_below HC.out HB.out) 0 (by omega) k0
  cases e0
  obtain ⟨_, e1, m1⟩ := Kd.at_int (Kd.C_below HC.out HB.out) 1 (by omega) k1
  cases e1
  replace m0 : W2.cell? a2 = some (.int .i64 v0) := Eq.trans m0 (by rw [HV.out.1]; rfl)
  replace m1 : W2.cell? ⟨a2.block, a2.off + 1, none⟩ = some (.int .i64 v1) := Eq.trans m1 (by rw [HV.out.2.1]; rfl)
  obtain ⟨c0, c1, c2', c3, c4, c5, cf⟩ := ev_cells HE.out
  obtain ⟨r0, r1, r2, r3, r4, r5, rf⟩ := ev_cells HR.out
  have n3 : b ≠ w.heap.size := by have := Hb.out; omega
  have n4 : w.heap.size ≠ b := by have := Hb.out; omega
  go_wp2
  refine event_close (b := w.heap.size) (e := ⟨3, v0, v1, d, 0, []⟩) (A := none) (c := 0) rfl (put6_ev HR.out ⟨3, v0, v1, d, 0, []⟩ none 0) ?_
  obtain ⟨q0, q1, _⟩ := HV.out
  have hfin : e = ⟨3, v0, v1, d, 0, []⟩ := by rw [HEV.out, ← q0, ← q1]
  rw [hfin]
  exact ⟨none, 0, rfl, Nat.le_refl _, Kd.C_nil _ _, (fun _ h => by cases h), put6_below HB.out (Nat.le_refl _) ⟨3, v0, v1, d, 0, []⟩ none 0⟩

set_option maxHeartbeats 8000000 in
set_option maxRecDepth 100000 in
theorem event_k4 (A : Option Addr) (c : Nat) (ws : List ByteArray) (A2 : Option Addr) (c2 : Nat) (n : List Int) (d : Int) (e : Ev) (hev : e = ⟨4, (n.getD 0 0), (n.getD 1 0), 0, 0, []⟩) (w : World) (h0 : 0 < ws.length) (hx : ∃ ad, A = some ad ∧ w.cell? ad = some (.string ⟨#[112, 105, 110]⟩)) (hn : 2 ≤ n.length) (hC : Kd.C (Kd.int .i64) w A2 n.length n) :
    Calls Tryd.prog 27 #[.slice A ws.length c, .slice A2 n.length c2, .int .i64 d] w fun x w' => EvOf A2 e w x w' := by
  have HEV := Aside0.mk hev
  clear hev
  obtain ⟨ad, rfl, hc0⟩ := hx
  have i0 : ((ws.length : Int) == 0) = false := by rw [beq_eq_false_iff_ne]; omega
  have i1 : (0 : Int) < (ws.length : Int) := by omega
  have hlt0 := World.block_lt_of_cell? w _ hc0
  have i2 : ((n.length : Int) < 2) = False := eq_false (by omega)
  have i2b : decide ((n.length : Int) < 2) = false := decide_eq_false (by omega)
  have k0 : (0 : Int) < (n.length : Int) := by omega
  obtain ⟨v0, hv0_⟩ : ∃ v, v = n.getD 0 0 := ⟨_, rfl⟩
  have k1 : (1 : Int) < (n.length : Int) := by omega
  obtain ⟨v1, hv1_⟩ : ∃ v, v = n.getD 1 0 := ⟨_, rfl⟩
  obtain ⟨aq, eq, mq⟩ := Kd.at_int hC 0 (by omega) k0
  have hlq : ∀ ad, A2 = some ad → ad.block < w.heap.size := fun ad' h => by rw [eq] at h; injection h with h; rw [← h]; exact World.block_lt_of_cell? w _ mq
  have HC := Aside0.mk hC
  have HV := Aside0.mk (show v0 = n.getD 0 0 ∧ v1 = n.getD 1 0 ∧ True from ⟨hv0_, hv1_, trivial⟩)
  clear hC eq mq hv0_ hv1_
  obtain ⟨b, hb⟩ : ∃ b, b = w.heap.size + 1 := ⟨_, rfl⟩
  go_enter Tryd.func27, Tryd.ntmps27
  go_wp2_with (fail)
  refine wp_gen ?_
  intro W hW
  have HB := Aside0.mk (show Below w.heap.size w W by rw [hW]; exact below_alloc (below_alloc (Below.refl _ w) _) _)
  have HR := Aside0.mk (show IsEv W w.heap.size evZ none 0 by rw [hW]; exact ev_below (alloc_ev (w := w) rfl evZ none 0) ((Below.refl _ _).alloc (Nat.le_refl _) _))
  have HE := Aside0.mk (show IsEv W b ⟨4, 0, 0, 0, 0, []⟩ none 0 by rw [hW, hb]; exact alloc_ev (w := w.alloc (.cells (evCells evZ none 0) 24)) (by simp) ⟨4, 0, 0, 0, 0, []⟩ none 0)
  have Hb := Aside0.mk hb
  clear hW hc0 i0 i1 hlt0
  simp only [← hb]
  clear hb
  obtain ⟨a2, rfl, m0⟩ := Kd.at_int (Kd.C_below HC.out HB.out) 0 (by omega) k0
  obtain ⟨_, e1, m1⟩ := Kd.at_int (Kd.C_below HC.out HB.out) 1 (by omega) k1
  cases e1
  replace m0 : W.cell? a2 = some (.int .i64 v0) := Eq.trans m0 (by rw [HV.out.1]; rfl)
  replace m1 : W.cell? ⟨a2.block, a2.off + 1, none⟩ = some (.int .i64 v1) := Eq.trans m1 (by rw [HV.out.2.1]; rfl)
  have hlq2 := hlq a2 rfl
  have n1 : a2.block ≠ b := by have := Hb.out; omega
  have n2 : b ≠ a2.block := by have := Hb.out; omega
  obtain ⟨c0, c1, c2', c3, c4, c5, cf⟩ := ev_cells HE.out
  go_region
  go_upto_region 29 with (fail)
  refine wp_gen ?_
  intro W2 hW
  have hBb : Below b W W2 := by rw [hW]; exact (below_drew (((Below.refl b W).setCell (p := ⟨b, 1, none⟩) (Nat.le_refl _) _).setCell (p := ⟨b, 2, none⟩) (Nat.le_refl _) _))
  have HE2 := Aside0.mk (show IsEv W2 b ⟨4, v0, v1, 0, 0, []⟩ none 0 by rw [hW]; exact (ev_put (e' := ⟨4, v0, v1, 0, 0, []⟩) (A' := none) (c' := 0) (ev_put (e' := ⟨4, v0, 0, 0, 0, []⟩) (A' := none) (c' := 0) HE.out 1 (.int .i64 v0) rfl) 2 (.int .i64 v1) rfl))
  have HR2 := Aside0.mk (show IsEv W2 w.heap.size evZ none 0 from (hBb.block _ (by have := Hb.out; omega)).trans HR.out)
  have HB2 := Aside0.mk (HB.out.trans (hBb.mono (by have := Hb.out; omega)))
  clear hW hBb HE HR HB c0 c1 c2' c3 c4 c5 cf m0 m1
  have HE := HE2
  have HR := HR2
  have HB := HB2
  clear HE2 HR2 HB2
  obtain ⟨_, e0, m0⟩ := Kd.at_int (Kd.C_below HC.out HB.out) 0 (by omega) k0
  cases e0
  obtain ⟨_, e1, m1⟩ := Kd.at_int (Kd.C_below HC.out HB.out) 1 (by omega) k1
  cases e1
  replace m0 : W2.cell? a2 = some (.int .i64 v0) := Eq.trans m0 (by rw [HV.out.1]; rfl)
  replace m1 : W2.cell? ⟨a2.block, a2.off + 1, none⟩ = some (.int .i64 v1) := Eq.trans m1 (by rw [HV.out.2.1]; rfl)
  obtain ⟨c0, c1, c2', c3, c4, c5, cf⟩ := ev_cells HE.out
  obtain ⟨r0, r1, r2, r3, r4, r5, rf⟩ := ev_cells HR.out
  have n3 : b ≠ w.heap.size := by have := Hb.out; omega
  have n4 : w.heap.size ≠ b := by have := Hb.out; omega
  go_wp2
  refine event_close (b := w.heap.size) (e := ⟨4, v0, v1, 0, 0, []⟩) (A := none) (c := 0) rfl (put6_ev HR.out ⟨4, v0, v1, 0, 0, []⟩ none 0) ?_
  obtain ⟨q0, q1, _⟩ := HV.out
  have hfin : e = ⟨4, v0, v1, 0, 0, []⟩ := by rw [HEV.out, ← q0, ← q1]
  rw [hfin]
  exact ⟨none, 0, rfl, Nat.le_refl _, Kd.C_nil _ _, (fun _ h => by cases h), put6_below HB.out (Nat.le_refl _) ⟨4, v0, v1, 0, 0, []⟩ none 0⟩

set_option maxHeartbeats 8000000 in
set_option maxRecDepth 100000 in
theorem event_k6 (A : Option Addr) (c : Nat) (ws : List ByteArray) (A2 : Option Addr) (c2 : Nat) (n : List Int) (d : Int) (e : Ev) (hev : e = ⟨6, 0, (n.getD 0 0), 0, 0, []⟩) (w : World) (h0 : 0 < ws.length) (hx : ∃ ad, A = some ad ∧ w.cell? ad = some (.string ⟨#[116, 105, 99, 107]⟩)) (hn : 1 ≤ n.length) (hC : Kd.C (Kd.int .i64) w A2 n.length n) :
    Calls Tryd.prog 27 #[.slice A ws.length c, .slice A2 n.length c2, .int .i64 d] w fun x w' => EvOf A2 e w x w' := by
  have HEV := Aside0.mk hev
  clear hev
  obtain ⟨ad, rfl, hc0⟩ := hx
  have i0 : ((ws.length : Int) == 0) = false := by rw [beq_eq_false_iff_ne]; omega
  have i1 : (0 : Int) < (ws.length : Int) := by omega
  have hlt0 := World.block_lt_of_cell? w _ hc0
  have i2 : ((n.length : Int) < 1) = False := eq_false (by omega)
  have i2b : decide ((n.length : Int) < 1) = false := decide_eq_false (by omega)
  have k0 : (0 : Int) < (n.length : Int) := by omega
  obtain ⟨v0, hv0_⟩ : ∃ v, v = n.getD 0 0 := ⟨_, rfl⟩
  obtain ⟨aq, eq, mq⟩ := Kd.at_int hC 0 (by omega) k0
  have hlq : ∀ ad, A2 = some ad → ad.block < w.heap.size := fun ad' h => by rw [eq] at h; injection h with h; rw [← h]; exact World.block_lt_of_cell? w _ mq
  have HC := Aside0.mk hC
  have HV := Aside0.mk (show v0 = n.getD 0 0 ∧ True from ⟨hv0_, trivial⟩)
  clear hC eq mq hv0_
  obtain ⟨b, hb⟩ : ∃ b, b = w.heap.size + 1 := ⟨_, rfl⟩
  go_enter Tryd.func27, Tryd.ntmps27
  go_upto_region 28 with (fail)
  refine wp_gen ?_
  intro W hW
  have HB := Aside0.mk (show Below w.heap.size w W by rw [hW]; exact below_alloc (below_alloc (Below.refl _ w) _) _)
  have HR := Aside0.mk (show IsEv W w.heap.size evZ none 0 by rw [hW]; exact ev_below (alloc_ev (w := w) rfl evZ none 0) ((Below.refl _ _).alloc (Nat.le_refl _) _))
  have HE := Aside0.mk (show IsEv W b ⟨6, 0, 0, 0, 0, []⟩ none 0 by rw [hW, hb]; exact alloc_ev (w := w.alloc (.cells (evCells evZ none 0) 24)) (by simp) ⟨6, 0, 0, 0, 0, []⟩ none 0)
  have Hb := Aside0.mk hb
  clear hW hc0 i0 i1 hlt0
  simp only [← hb]
  clear hb
  obtain ⟨a2, rfl, m0⟩ := Kd.at_int (Kd.C_below HC.out HB.out) 0 (by omega) k0
  replace m0 : W.cell? a2 = some (.int .i64 v0) := Eq.trans m0 (by rw [HV.out.1]; rfl)
  have hlq2 := hlq a2 rfl
  have n1 : a2.block ≠ b := by have := Hb.out; omega
  have n2 : b ≠ a2.block := by have := Hb.out; omega
  obtain ⟨c0, c1, c2', c3, c4, c5, cf⟩ := ev_cells HE.out
  go_upto_region 29 with (fail)
  refine wp_gen ?_
  intro W2 hW
  have hBb : Below b W W2 := by rw [hW]; exact ((Below.refl b W).setCell (p := ⟨b, 2, none⟩) (Nat.le_refl _) _)
  have HE2 := Aside0.mk (show IsEv W2 b ⟨6, 0, v0, 0, 0, []⟩ none 0 by rw [hW]; exact (ev_put (e' := ⟨6, 0, v0, 0, 0, []⟩) (A' := none) (c' := 0) HE.out 2 (.int .i64 v0) rfl))
  have HR2 := Aside0.mk (show IsEv W2 w.heap.size evZ none 0 from (hBb.block _ (by have := Hb.out; omega)).trans HR.out)
  have HB2 := Aside0.mk (HB.out.trans (hBb.mono (by have := Hb.out; omega)))
  clear hW hBb HE HR HB c0 c1 c2' c3 c4 c5 cf m0
  have HE := HE2
  have HR := HR2
  have HB := HB2
  clear HE2 HR2 HB2
  obtain ⟨_, e0, m0⟩ := Kd.at_int (Kd.C_below HC.out HB.out) 0 (by omega) k0
  cases e0
  replace m0 : W2.cell? a2 = some (.int .i64 v0) := Eq.trans m0 (by rw [HV.out.1]; rfl)
  obtain ⟨c0, c1, c2', c3, c4, c5, cf⟩ := ev_cells HE.out
  obtain ⟨r0, r1, r2, r3, r4, r5, rf⟩ := ev_cells HR.out
  have n3 : b ≠ w.heap.size := by have := Hb.out; omega
  have n4 : w.heap.size ≠ b := by have := Hb.out; omega
  go_wp2
  refine event_close (b := w.heap.size) (e := ⟨6, 0, v0, 0, 0, []⟩) (A := none) (c := 0) rfl (put6_ev HR.out ⟨6, 0, v0, 0, 0, []⟩ none 0) ?_
  obtain ⟨q0, _⟩ := HV.out
  have hfin : e = ⟨6, 0, v0, 0, 0, []⟩ := by rw [HEV.out, ← q0]
  rw [hfin]
  exact ⟨none, 0, rfl, Nat.le_refl _, Kd.C_nil _ _, (fun _ h => by cases h), put6_below HB.out (Nat.le_refl _) ⟨6, 0, v0, 0, 0, []⟩ none 0⟩

set_option maxHeartbeats 8000000 in
set_option maxRecDepth 100000 in
theorem event_k7 (A : Option Addr) (c : Nat) (ws : List ByteArray) (A2 : Option Addr) (c2 : Nat) (n : List Int) (d : Int) (e : Ev) (hev : e = ⟨7, 0, (n.getD 0 0), 0, 0, []⟩) (w : World) (h0 : 0 < ws.length) (hx : ∃ ad, A = some ad ∧ w.cell? ad = some (.string ⟨#[100, 101, 99, 97, 121]⟩)) (hn : 1 ≤ n.length) (hC : Kd.C (Kd.int .i64) w A2 n.length n) :
    Calls Tryd.prog 27 #[.slice A ws.length c, .slice A2 n.length c2, .int .i64 d] w fun x w' => EvOf A2 e w x w' := by
  have HEV := Aside0.mk hev
  clear hev
  obtain ⟨ad, rfl, hc0⟩ := hx
  have i0 : ((ws.length : Int) == 0) = false := by rw [beq_eq_false_iff_ne]; omega
  have i1 : (0 : Int) < (ws.length : Int) := by omega
  have hlt0 := World.block_lt_of_cell? w _ hc0
  have i2 : ((n.length : Int) < 1) = False := eq_false (by omega)
  have i2b : decide ((n.length : Int) < 1) = false := decide_eq_false (by omega)
  have k0 : (0 : Int) < (n.length : Int) := by omega
  obtain ⟨v0, hv0_⟩ : ∃ v, v = n.getD 0 0 := ⟨_, rfl⟩
  obtain ⟨aq, eq, mq⟩ := Kd.at_int hC 0 (by omega) k0
  have hlq : ∀ ad, A2 = some ad → ad.block < w.heap.size := fun ad' h => by rw [eq] at h; injection h with h; rw [← h]; exact World.block_lt_of_cell? w _ mq
  have HC := Aside0.mk hC
  have HV := Aside0.mk (show v0 = n.getD 0 0 ∧ True from ⟨hv0_, trivial⟩)
  clear hC eq mq hv0_
  obtain ⟨b, hb⟩ : ∃ b, b = w.heap.size + 1 := ⟨_, rfl⟩
  go_enter Tryd.func27, Tryd.ntmps27
  go_upto_region 28 with (fail)
  refine wp_gen ?_
  intro W hW
  have HB := Aside0.mk (show Below w.heap.size w W by rw [hW]; exact below_alloc (below_alloc (Below.refl _ w) _) _)
  have HR := Aside0.mk (show IsEv W w.heap.size evZ none 0 by rw [hW]; exact ev_below (alloc_ev (w := w) rfl evZ none 0) ((Below.refl _ _).alloc (Nat.le_refl _) _))
  have HE := Aside0.mk (show IsEv W b ⟨7, 0, 0, 0, 0, []⟩ none 0 by rw [hW, hb]; exact alloc_ev (w := w.alloc (.cells (evCells evZ none 0) 24)) (by simp) ⟨7, 0, 0, 0, 0, []⟩ none 0)
  have Hb := Aside0.mk hb
  clear hW hc0 i0 i1 hlt0
  simp only [← hb]
  clear hb
  obtain ⟨a2, rfl, m0⟩ := Kd.at_int (Kd.C_below HC.out HB.out) 0 (by omega) k0
  replace m0 : W.cell? a2 = some (.int .i64 v0) := Eq.trans m0 (by rw [HV.out.1]; rfl)
  have hlq2 := hlq a2 rfl
  have n1 : a2.block ≠ b := by have := Hb.out; omega
  have n2 : b ≠ a2.block := by have := Hb.out; omega
  obtain ⟨c0, c1, c2', c3, c4, c5, cf⟩ := ev_cells HE.out
  go_upto_region 29 with (fail)
  refine wp_gen ?_
  intro W2 hW
  have hBb : Below b W W2 := by rw [hW]; exact ((Below.refl b W).setCell (p := ⟨b, 2, none⟩) (Nat.le_refl _) _)
  have HE2 := Aside0.mk (show IsEv W2 b ⟨7, 0, v0, 0, 0, []⟩ none 0 by rw [hW]; exact (ev_put (e' := ⟨7, 0, v0, 0, 0, []⟩) (A' := none) (c' := 0) HE.out 2 (.int .i64 v0) rfl))
  have HR2 := Aside0.mk (show IsEv W2 w.heap.size evZ none 0 from (hBb.block _ (by have := Hb.out; omega)).trans HR.out)
  have HB2 := Aside0.mk (HB.out.trans (hBb.mono (by have := Hb.out; omega)))
  clear hW hBb HE HR HB c0 c1 c2' c3 c4 c5 cf m0
  have HE := HE2
  have HR := HR2
  have HB := HB2
  clear HE2 HR2 HB2
  obtain ⟨_, e0, m0⟩ := Kd.at_int (Kd.C_below HC.out HB.out) 0 (by omega) k0
  cases e0
  replace m0 : W2.cell? a2 = some (.int .i64 v0) := Eq.trans m0 (by rw [HV.out.1]; rfl)
  obtain ⟨c0, c1, c2', c3, c4, c5, cf⟩ := ev_cells HE.out
  obtain ⟨r0, r1, r2, r3, r4, r5, rf⟩ := ev_cells HR.out
  have n3 : b ≠ w.heap.size := by have := Hb.out; omega
  have n4 : w.heap.size ≠ b := by have := Hb.out; omega
  go_wp2
  refine event_close (b := w.heap.size) (e := ⟨7, 0, v0, 0, 0, []⟩) (A := none) (c := 0) rfl (put6_ev HR.out ⟨7, 0, v0, 0, 0, []⟩ none 0) ?_
  obtain ⟨q0, _⟩ := HV.out
  have hfin : e = ⟨7, 0, v0, 0, 0, []⟩ := by rw [HEV.out, ← q0]
  rw [hfin]
  exact ⟨none, 0, rfl, Nat.le_refl _, Kd.C_nil _ _, (fun _ h => by cases h), put6_below HB.out (Nat.le_refl _) ⟨7, 0, v0, 0, 0, []⟩ none 0⟩

set_option maxHeartbeats 8000000 in
set_option maxRecDepth 100000 in
theorem event_k0 (A : Option Addr) (c : Nat) (ws : List ByteArray) (A2 : Option Addr) (c2 : Nat) (n : List Int) (d : Int) (e : Ev) (hev : e = ⟨0, (n.getD 0 0), (n.getD 1 0), 0, 0, []⟩) (w : World) (h0 : 0 < ws.length) (x0 : ByteArray) (hx : ∃ ad, A = some ad ∧ w.cell? ad = some (.string x0)) (hw1 : x0 ≠ ⟨#[115, 117, 98, 109, 105, 116]⟩) (hw2 : x0 ≠ ⟨#[115, 116, 97, 114, 116]⟩) (hw3 : x0 ≠ ⟨#[101, 110, 100]⟩) (hw4 : x0 ≠ ⟨#[112, 105, 110]⟩) (hw5 : x0 ≠ ⟨#[112, 97, 115, 115]⟩) (hw6 : x0 ≠ ⟨#[116, 105, 99, 107]⟩) (hw7 : x0 ≠ ⟨#[100, 101, 99, 97, 121]⟩) (hn : 2 ≤ n.length) (hC : Kd.C (Kd.int .i64) w A2 n.length n) :
    Calls Tryd.prog 27 #[.slice A ws.length c, .slice A2 n.length c2, .int .i64 d] w fun x w' => EvOf A2 e w x w' := by
  have HEV := Aside0.mk hev
  clear hev
  obtain ⟨ad, rfl, hc0⟩ := hx
  have i0 : ((ws.length : Int) == 0) = false := by rw [beq_eq_false_iff_ne]; omega
  have i1 : (0 : Int) < (ws.length : Int) := by omega
  have hlt0 := World.block_lt_of_cell? w _ hc0
  have hv1 : (x0.toList == (⟨#[115, 117, 98, 109, 105, 116]⟩ : ByteArray).toList) = false := by rw [beq_eq_false_iff_ne]; exact fun h => hw1 (by rw [← ofL_data x0, ← toList_data, h, toList_data, ofL_data])
  have hv2 : (x0.toList == (⟨#[115, 116, 97, 114, 116]⟩ : ByteArray).toList) = false := by rw [beq_eq_false_iff_ne]; exact fun h => hw2 (by rw [← ofL_data x0, ← toList_data, h, toList_data, ofL_data])
  have hv3 : (x0.toList == (⟨#[101, 110, 100]⟩ : ByteArray).toList) = false := by rw [beq_eq_false_iff_ne]; exact fun h => hw3 (by rw [← ofL_data x0, ← toList_data, h, toList_data, ofL_data])
  have hv4 : (x0.toList == (⟨#[112, 105, 110]⟩ : ByteArray).toList) = false := by rw [beq_eq_false_iff_ne]; exact fun h => hw4 (by rw [← ofL_data x0, ← toList_data, h, toList_data, ofL_data])
  have hv5 : (x0.toList == (⟨#[112, 97, 115, 115]⟩ : ByteArray).toList) = false := by rw [beq_eq_false_iff_ne]; exact fun h => hw5 (by rw [← ofL_data x0, ← toList_data, h, toList_data, ofL_data])
  have hv6 : (x0.toList == (⟨#[116, 105, 99, 107]⟩ : ByteArray).toList) = false := by rw [beq_eq_false_iff_ne]; exact fun h => hw6 (by rw [← ofL_data x0, ← toList_data, h, toList_data, ofL_data])
  have hv7 : (x0.toList == (⟨#[100, 101, 99, 97, 121]⟩ : ByteArray).toList) = false := by rw [beq_eq_false_iff_ne]; exact fun h => hw7 (by rw [← ofL_data x0, ← toList_data, h, toList_data, ofL_data])
  have hu1 : (x0.toList == [115, 117, 98, 109, 105, 116]) = false := by rw [beq_eq_false_iff_ne]; exact fun h => hw1 (by rw [← ofL_data x0, ← toList_data, h]; rfl)
  have hu2 : (x0.toList == [115, 116, 97, 114, 116]) = false := by rw [beq_eq_false_iff_ne]; exact fun h => hw2 (by rw [← ofL_data x0, ← toList_data, h]; rfl)
  have hu3 : (x0.toList == [101, 110, 100]) = false := by rw [beq_eq_false_iff_ne]; exact fun h => hw3 (by rw [← ofL_data x0, ← toList_data, h]; rfl)
  have hu4 : (x0.toList == [112, 105, 110]) = false := by rw [beq_eq_false_iff_ne]; exact fun h => hw4 (by rw [← ofL_data x0, ← toList_data, h]; rfl)
  have hu5 : (x0.toList == [112, 97, 115, 115]) = false := by rw [beq_eq_false_iff_ne]; exact fun h => hw5 (by rw [← ofL_data x0, ← toList_data, h]; rfl)
  have hu6 : (x0.toList == [116, 105, 99, 107]) = false := by rw [beq_eq_false_iff_ne]; exact fun h => hw6 (by rw [← ofL_data x0, ← toList_data, h]; rfl)
  have hu7 : (x0.toList == [100, 101, 99, 97, 121]) = false := by rw [beq_eq_false_iff_ne]; exact fun h => hw7 (by rw [← ofL_data x0, ← toList_data, h]; rfl)
  clear hw1 hw2 hw3 hw4 hw5 hw6 hw7
  have i2 : ((n.length : Int) < 2) = False := eq_false (by omega)
  have i2b : decide ((n.length : Int) < 2) = false := decide_eq_false (by omega)
  have k0 : (0 : Int) < (n.length : Int) := by omega
  obtain ⟨v0, hv0_⟩ : ∃ v, v = n.getD 0 0 := ⟨_, rfl⟩
  have k1 : (1 : Int) < (n.length : Int) := by omega
  obtain ⟨v1, hv1_⟩ : ∃ v, v = n.getD 1 0 := ⟨_, rfl⟩
  obtain ⟨aq, eq, mq⟩ := Kd.at_int hC 0 (by omega) k0
  have hlq : ∀ ad, A2 = some ad → ad.block < w.heap.size := fun ad' h => by rw [eq] at h; injection h with h; rw [← h]; exact World.block_lt_of_cell? w _ mq
  have HC := Aside0.mk hC
  have HV := Aside0.mk (show v0 = n.getD 0 0 ∧ v1 = n.getD 1 0 ∧ True from ⟨hv0_, hv1_, trivial⟩)
  clear hC eq mq hv0_ hv1_
  obtain ⟨b, hb⟩ : ∃ b, b = w.heap.size + 1 := ⟨_, rfl⟩
  go_enter Tryd.func27, Tryd.ntmps27
  go_wp2_with (fail)
  refine wp_gen ?_
  intro W hW
  have HB := Aside0.mk (show Below w.heap.size w W by rw [hW]; exact below_alloc (below_alloc (Below.refl _ w) _) _)
  have HR := Aside0.mk (show IsEv W w.heap.size evZ none 0 by rw [hW]; exact ev_below (alloc_ev (w := w) rfl evZ none 0) ((Below.refl _ _).alloc (Nat.le_refl _) _))
  have HE := Aside0.mk (show IsEv W b ⟨0, 0, 0, 0, 0, []⟩ none 0 by rw [hW, hb]; exact alloc_ev (w := w.alloc (.cells (evCells evZ none 0) 24)) (by simp) ⟨0, 0, 0, 0, 0, []⟩ none 0)
  have Hb := Aside0.mk hb
  clear hW hc0 i0 i1 hlt0 hv1 hu1 hv2 hu2 hv3 hu3 hv4 hu4 hv5 hu5 hv6 hu6 hv7 hu7
  simp only [← hb]
  clear hb
  obtain ⟨a2, rfl, m0⟩ := Kd.at_int (Kd.C_below HC.out HB.out) 0 (by omega) k0
  obtain ⟨_, e1, m1⟩ := Kd.at_int (Kd.C_below HC.out HB.out) 1 (by omega) k1
  cases e1
  replace m0 : W.cell? a2 = some (.int .i64 v0) := Eq.trans m0 (by rw [HV.out.1]; rfl)
  replace m1 : W.cell? ⟨a2.block, a2.off + 1, none⟩ = some (.int .i64 v1) := Eq.trans m1 (by rw [HV.out.2.1]; rfl)
  have hlq2 := hlq a2 rfl
  have n1 : a2.block ≠ b := by have := Hb.out; omega
  have n2 : b ≠ a2.block := by have := Hb.out; omega
  obtain ⟨c0, c1, c2', c3, c4, c5, cf⟩ := ev_cells HE.out
  go_region
  go_upto_region 29 with (fail)
  refine wp_gen ?_
  intro W2 hW
  have hBb : Below b W W2 := by rw [hW]; exact (below_drew (((Below.refl b W).setCell (p := ⟨b, 1, none⟩) (Nat.le_refl _) _).setCell (p := ⟨b, 2, none⟩) (Nat.le_refl _) _))
  have HE2 := Aside0.mk (show IsEv W2 b ⟨0, v0, v1, 0, 0, []⟩ none 0 by rw [hW]; exact (ev_put (e' := ⟨0, v0, v1, 0, 0, []⟩) (A' := none) (c' := 0) (ev_put (e' := ⟨0, v0, 0, 0, 0, []⟩) (A' := none) (c' := 0) HE.out 1 (.int .i64 v0) rfl) 2 (.int .i64 v1) rfl))
  have HR2 := Aside0.mk (show IsEv W2 w.heap.size evZ none 0 from (hBb.block _ (by have := Hb.out; omega)).trans HR.out)
  have HB2 := Aside0.mk (HB.out.trans (hBb.mono (by have := Hb.out; omega)))
  clear hW hBb HE HR HB c0 c1 c2' c3 c4 c5 cf m0 m1
  have HE := HE2
  have HR := HR2
  have HB := HB2
  clear HE2 HR2 HB2
  obtain ⟨_, e0, m0⟩ := Kd.at_int (Kd.C_below HC.out HB.out) 0 (by omega) k0
  cases e0
  obtain ⟨_, e1, m1⟩ := Kd.at_int (Kd.C_below HC.out HB.out) 1 (by omega) k1
  cases e1
  replace m0 : W2.cell? a2 = some (.int .i64 v0) := Eq.trans m0 (by rw [HV.out.1]; rfl)
  replace m1 : W2.cell? ⟨a2.block, a2.off + 1, none⟩ = some (.int .i64 v1) := Eq.trans m1 (by rw [HV.out.2.1]; rfl)
  obtain ⟨c0, c1, c2', c3, c4, c5, cf⟩ := ev_cells HE.out
  obtain ⟨r0, r1, r2, r3, r4, r5, rf⟩ := ev_cells HR.out
  have n3 : b ≠ w.heap.size := by have := Hb.out; omega
  have n4 : w.heap.size ≠ b := by have := Hb.out; omega
  go_wp2
  refine event_close (b := w.heap.size) (e := ⟨0, v0, v1, 0, 0, []⟩) (A := none) (c := 0) rfl (put6_ev HR.out ⟨0, v0, v1, 0, 0, []⟩ none 0) ?_
  obtain ⟨q0, q1, _⟩ := HV.out
  have hfin : e = ⟨0, v0, v1, 0, 0, []⟩ := by rw [HEV.out, ← q0, ← q1]
  rw [hfin]
  exact ⟨none, 0, rfl, Nat.le_refl _, Kd.C_nil _ _, (fun _ h => by cases h), put6_below HB.out (Nat.le_refl _) ⟨0, v0, v1, 0, 0, []⟩ none 0⟩

theorem evOf_eq (x0 : ByteArray) (r : List ByteArray) (n : List Int) (d : Int) (k : Int) (hk : kindOf x0.data.toList = k) : evOf (dat (x0 :: r)) n d = if n.length < wantOf k then evZ else
  ⟨k, if wantOf k = 1 then 0 else n.getD 0 0, if wantOf k = 1 then n.getD 0 0 else n.getD 1 0, if k = 1 then n.getD 2 0 else if k = 3 then d else 0, if k = 1 then n.getD 3 0 else 0, if k = 2 ∨ k = 5 then n.drop (wantOf k) else []⟩ := by
  subst hk
  have e : (dat (x0 :: r)).getD 0 [] = x0.data.toList := rfl
  unfold evOf
  rw [if_neg (by simp [dat]), e]
/-- answers.event. -/
theorem event_of (A : Option Addr) (c : Nat) (ws : List ByteArray) (A2 : Option Addr) (c2 : Nat) (n : List Int) (d : Int) (w : World) (hW : Kd.C Kd.string w A ws.length ws) (hC : Kd.C (Kd.int .i64) w A2 n.length n) (hcc : n.length ≤ c2) :
    Calls Tryd.prog 27 #[.slice A ws.length c, .slice A2 n.length c2, .int .i64 d] w fun x w' => EvOf A2 (evOf (dat ws) n d) w x w' := by
  cases ws with
  | nil => exact event_none A c A2 c2 n d w
  | cons x0 r =>
    have h0 : 0 < (x0 :: r).length := by simp
    obtain ⟨ad, rfl, hc⟩ := Kd.at_string hW 0 (by omega) (by omega)
    have hx : ∃ ad', some ad = some ad' ∧ w.cell? ad' = some (.string x0) := ⟨ad, rfl, hc⟩
    by_cases g1 : x0 = ⟨#[115, 117, 98, 109, 105, 116]⟩
    · subst g1
      rw [evOf_eq _ r n d 1 (by decide +kernel)]
      by_cases hn : n.length < 4
      · rw [if_pos (show n.length < wantOf 1 from hn)]
        exact event_s1 (some ad) c _ A2 c2 n d w h0 hx hn
      · rw [if_neg (show ¬ n.length < wantOf 1 from hn)]
        exact event_k1 (some ad) c _ A2 c2 n d _ rfl w h0 hx (by omega) hC
    by_cases g2 : x0 = ⟨#[115, 116, 97, 114, 116]⟩
    · subst g2
      rw [evOf_eq _ r n d 2 (by decide +kernel)]
      by_cases hn : n.length < 2
      · rw [if_pos (show n.length < wantOf 2 from hn)]
        exact event_s2 (some ad) c _ A2 c2 n d w h0 hx hn
      · rw [if_neg (show ¬ n.length < wantOf 2 from hn)]
        exact event_k2 (some ad) c _ A2 c2 n d _ rfl w h0 hx (by omega) hC hcc
    by_cases g3 : x0 = ⟨#[101, 110, 100]⟩
    · subst g3
      rw [evOf_eq _ r n d 3 (by decide +kernel)]
      by_cases hn : n.length < 2
      · rw [if_pos (show n.length < wantOf 3 from hn)]
        exact event_s3 (some ad) c _ A2 c2 n d w h0 hx hn
      · rw [if_neg (show ¬ n.length < wantOf 3 from hn)]
        exact event_k3 (some ad) c _ A2 c2 n d _ rfl w h0 hx (by omega) hC
    by_cases g4 : x0 = ⟨#[112, 105, 110]⟩
    · subst g4
      rw [evOf_eq _ r n d 4 (by decide +kernel)]
      by_cases hn : n.length < 2
      · rw [if_pos (show n.length < wantOf 4 from hn)]
        exact event_s4 (some ad) c _ A2 c2 n d w h0 hx hn
      · rw [if_neg (show ¬ n.length < wantOf 4 from hn)]
        exact event_k4 (some ad) c _ A2 c2 n d _ rfl w h0 hx (by omega) hC
    by_cases g5 : x0 = ⟨#[112, 97, 115, 115]⟩
    · subst g5
      rw [evOf_eq _ r n d 5 (by decide +kernel)]
      by_cases hn : n.length < 1
      · rw [if_pos (show n.length < wantOf 5 from hn)]
        exact event_s5 (some ad) c _ A2 c2 n d w h0 hx hn
      · rw [if_neg (show ¬ n.length < wantOf 5 from hn)]
        exact event_k5 (some ad) c _ A2 c2 n d _ rfl w h0 hx (by omega) hC hcc
    by_cases g6 : x0 = ⟨#[116, 105, 99, 107]⟩
    · subst g6
      rw [evOf_eq _ r n d 6 (by decide +kernel)]
      by_cases hn : n.length < 1
      · rw [if_pos (show n.length < wantOf 6 from hn)]
        exact event_s6 (some ad) c _ A2 c2 n d w h0 hx hn
      · rw [if_neg (show ¬ n.length < wantOf 6 from hn)]
        exact event_k6 (some ad) c _ A2 c2 n d _ rfl w h0 hx (by omega) hC
    by_cases g7 : x0 = ⟨#[100, 101, 99, 97, 121]⟩
    · subst g7
      rw [evOf_eq _ r n d 7 (by decide +kernel)]
      by_cases hn : n.length < 1
      · rw [if_pos (show n.length < wantOf 7 from hn)]
        exact event_s7 (some ad) c _ A2 c2 n d w h0 hx hn
      · rw [if_neg (show ¬ n.length < wantOf 7 from hn)]
        exact event_k7 (some ad) c _ A2 c2 n d _ rfl w h0 hx (by omega) hC
    have hk : kindOf x0.data.toList = 0 := by
      unfold kindOf
      rw [if_neg (fun h => g1 (by rw [← ofL_data x0, h]; rfl)), if_neg (fun h => g2 (by rw [← ofL_data x0, h]; rfl)), if_neg (fun h => g3 (by rw [← ofL_data x0, h]; rfl)), if_neg (fun h => g4 (by rw [← ofL_data x0, h]; rfl)), if_neg (fun h => g5 (by rw [← ofL_data x0, h]; rfl)), if_neg (fun h => g6 (by rw [← ofL_data x0, h]; rfl)), if_neg (fun h => g7 (by rw [← ofL_data x0, h]; rfl))]
    rw [evOf_eq _ r n d 0 hk]
    by_cases hn : n.length < 2
    · rw [if_pos (show n.length < wantOf 0 from hn)]
      exact event_s0 (some ad) c _ A2 c2 n d w h0 x0 hx g1 g2 g3 g4 g5 g6 g7 hn
    · rw [if_neg (show ¬ n.length < wantOf 0 from hn)]
      exact event_k0 (some ad) c _ A2 c2 n d _ rfl w h0 x0 hx g1 g2 g3 g4 g5 g6 g7 (by omega) hC

end Go.Proofs.YtokioddaonknpaaDoor.A
