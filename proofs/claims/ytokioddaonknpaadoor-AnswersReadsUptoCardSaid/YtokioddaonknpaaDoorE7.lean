/- Own text (printed by gen7.py): the walk of answers.event, the kinds of a list and the short ones. -/
import Derived.Test.YtokioddaonknpaaDoorE6
namespace Go.Proofs.YtokioddaonknpaaDoor.A
open Go.RowKit Go.Proofs.YtokioddaonknpaaDoorW.PrintWords Go.Proofs.YtokioddaonknpaaDoor.PAnswersReads
set_option linter.unusedSimpArgs false

/-- An event handed back. -/
def EvOf (A2 : Option Addr) (e : Ev) (w : World) (x : Ending) (w' : World) : Prop := ∃ A c, x = .returned (.agg (evCells e A c)) ∧ e.list.length ≤ c ∧ Kd.C (Kd.int .i64) w' A e.list.length e.list ∧ (∀ ad, A = some ad → 0 < e.list.length → ∃ a, A2 = some a ∧ ad.block = a.block) ∧ Below w.heap.size w w'

set_option maxHeartbeats 8000000 in
set_option maxRecDepth 100000 in
theorem event_k2 (A : Option Addr) (c : Nat) (ws : List ByteArray) (A2 : Option Addr) (c2 : Nat) (n : List Int) (d : Int) (e : Ev) (hev : e = ⟨2, (n.getD 0 0), (n.getD 1 0), 0, 0, n.drop 2⟩) (w : World) (h0 : 0 < ws.length) (hx : ∃ ad, A = some ad ∧ w.cell? ad = some (.string ⟨#[115, 116, 97, 114, 116]⟩)) (hn : 2 ≤ n.length) (hC : Kd.C (Kd.int .i64) w A2 n.length n) (hcc : n.length ≤ c2) :
    Calls Tryd.prog 27 #[.slice A ws.length c, .slice A2 n.length c2, .int .i64 d] w fun x w' => EvOf A2 e w x w' := by
  have HEV := Aside0.mk hev
  clear hev
  obtain ⟨ad, rfl, hc0⟩ := hx
  have i0 : ((ws.length : Int) == 0) = false := by rw [beq_eq_false_iff_ne]; omega
  have i1 : (0 : Int) < (ws.length : Int) := by omega
  have hlt0 := World.block_lt_of_cell? w _ hc0
  have i2 : ((n.length : Int) < 2) = False := eq_false (by omega)
  have i2b : decide ((n.length : Int) < 2) = false := decide_eq_false (by omega)
  have k0 : (0 : Int) < (n.length : Int) := by omega
  obtain ⟨v0, hv0_⟩ : ∃ v, v = n.getD 0 0 := ⟨_, rfl⟩
  have k1 : (1 : Int) < (n.length : Int) := by omega
  obtain ⟨v1, hv1_⟩ : ∃ v, v = n.getD 1 0 := ⟨_, rfl⟩
  obtain ⟨aq, eq, mq⟩ := Kd.at_int hC 0 (by omega) k0
  have hlq : ∀ ad, A2 = some ad → ad.block < w.heap.size := fun ad' h => by rw [eq] at h; injection h with h; rw [← h]; exact World.block_lt_of_cell? w _ mq
  have HC := Aside0.mk hC
  have HV := Aside0.mk (show v0 = n.getD 0 0 ∧ v1 = n.getD 1 0 ∧ True from ⟨hv0_, hv1_, trivial⟩)
  clear hC eq mq hv0_ hv1_
  obtain ⟨b, hb⟩ : ∃ b, b = w.heap.size + 1 := ⟨_, rfl⟩
  go_enter Tryd.func27, Tryd.ntmps27
  go_wp2_with (fail)
  refine wp_gen ?_
  intro W hW
  have HB := Aside0.mk (show Below w.heap.size w W by rw [hW]; exact below_alloc (below_alloc (Below.refl _ w) _) _)
  have HR := Aside0.mk (show IsEv W w.heap.size evZ none 0 by rw [hW]; exact ev_below (alloc_ev (w := w) rfl evZ none 0) ((Below.refl _ _).alloc (Nat.le_refl _) _))
  have HE := Aside0.mk (show IsEv W b ⟨2, 0, 0, 0, 0, []⟩ none 0 by rw [hW, hb]; exact alloc_ev (w := w.alloc (.cells (evCells evZ none 0) 24)) (by simp) ⟨2, 0, 0, 0, 0, []⟩ none 0)
  have Hb := Aside0.mk hb
  clear hW hc0 i0 i1 hlt0
  simp only [← hb]
  clear hb
  obtain ⟨a2, rfl, m0⟩ := Kd.at_int (Kd.C_below HC.out HB.out) 0 (by omega) k0
  obtain ⟨_, e1, m1⟩ := Kd.at_int (Kd.C_below HC.out HB.out) 1 (by omega) k1
  cases e1
  replace m0 : W.cell? a2 = some (.int .i64 v0) := Eq.trans m0 (by rw [HV.out.1]; rfl)
  replace m1 : W.cell? ⟨a2.block, a2.off + 1, none⟩ = some (.int .i64 v1) := Eq.trans m1 (by rw [HV.out.2.1]; rfl)
  have hlq2 := hlq a2 rfl
  have n1 : a2.block ≠ b := by have := Hb.out; omega
  have n2 : b ≠ a2.block := by have := Hb.out; omega
  obtain ⟨c0, c1, c2', c3, c4, c5, cf⟩ := ev_cells HE.out
  go_region
  go_upto_region 29 with (fail)
  refine wp_gen ?_
  intro W2 hW
  have hBb : Below b W W2 := by rw [hW]; exact (below_drew (((Below.refl b W).setCell (p := ⟨b, 1, none⟩) (Nat.le_refl _) _).setCell (p := ⟨b, 2, none⟩) (Nat.le_refl _) _))
  have HE2 := Aside0.mk (show IsEv W2 b ⟨2, v0, v1, 0, 0, []⟩ none 0 by rw [hW]; exact (ev_put (e' := ⟨2, v0, v1, 0, 0, []⟩) (A' := none) (c' := 0) (ev_put (e' := ⟨2, v0, 0, 0, 0, []⟩) (A' := none) (c' := 0) HE.out 1 (.int .i64 v0) rfl) 2 (.int .i64 v1) rfl))
  have HR2 := Aside0.mk (show IsEv W2 w.heap.size evZ none 0 from (hBb.block _ (by have := Hb.out; omega)).trans HR.out)
  have HB2 := Aside0.mk (HB.out.trans (hBb.mono (by have := Hb.out; omega)))
  clear hW hBb HE HR HB c0 c1 c2' c3 c4 c5 cf m0 m1
  have HE := HE2
  have HR := HR2
  have HB := HB2
  clear HE2 HR2 HB2
  obtain ⟨_, e0, m0⟩ := Kd.at_int (Kd.C_below HC.out HB.out) 0 (by omega) k0
  cases e0
  obtain ⟨_, e1, m1⟩ := Kd.at_int (Kd.C_below HC.out HB.out) 1 (by omega) k1
  cases e1
  replace m0 : W2.cell? a2 = some (.int .i64 v0) := Eq.trans m0 (by rw [HV.out.1]; rfl)
  replace m1 : W2.cell? ⟨a2.block, a2.off + 1, none⟩ = some (.int .i64 v1) := Eq.trans m1 (by rw [HV.out.2.1]; rfl)
  obtain ⟨c0, c1, c2', c3, c4, c5, cf⟩ := ev_cells HE.out
  obtain ⟨r0, r1, r2, r3, r4, r5, rf⟩ := ev_cells HR.out
  have n3 : b ≠ w.heap.size := by have := Hb.out; omega
  have n4 : w.heap.size ≠ b := by have := Hb.out; omega
  go_wp2
  · have hdl : (n.drop 2).length = n.length - 2 := List.length_drop
    have hyes : c2 = 2 := by assumption
    have hD := Kd.C_drop (m := 2) HC.out hn hcc
    rw [if_pos hyes] at hD
    rw [← hdl]
    have hBf := put6_below (HB.out.setCell (p := ⟨b, 5, none⟩) (by have := Hb.out; show w.heap.size ≤ b; omega) (.slice (some a2) (n.drop 2).length 0)) (Nat.le_refl _) ⟨2, v0, v1, 0, 0, n.drop 2⟩ (some a2) 0
    refine event_close (b := w.heap.size) (e := ⟨2, v0, v1, 0, 0, n.drop 2⟩) (A := some a2) (c := 0) rfl (put6_ev (show IsEv (W2.setCell ⟨b, 5, none⟩ (.slice (some a2) (n.drop 2).length 0)) w.heap.size evZ none 0 from (((Below.refl b W2).setCell (p := ⟨b, 5, none⟩) (Nat.le_refl _) _).block _ (by have := Hb.out; omega)).trans HR.out) ⟨2, v0, v1, 0, 0, n.drop 2⟩ (some a2) 0) ?_
    obtain ⟨q0, q1, _⟩ := HV.out
    have hfin : e = ⟨2, v0, v1, 0, 0, n.drop 2⟩ := by rw [HEV.out, ← q0, ← q1]
    rw [hfin]
    exact ⟨some a2, 0, rfl, (by show (n.drop 2).length ≤ _; omega), Kd.C_below hD hBf, (fun _ h _ => by injection h with h; exact ⟨a2, rfl, by rw [← h]⟩), hBf⟩
  · have hdl : (n.drop 2).length = n.length - 2 := List.length_drop
    have hne : ¬ c2 = 2 := by assumption
    have hD := Kd.C_drop (m := 2) HC.out hn hcc
    rw [if_neg hne] at hD
    rw [← hdl]
    have hBf := put6_below (HB.out.setCell (p := ⟨b, 5, none⟩) (by have := Hb.out; show w.heap.size ≤ b; omega) (.slice (some ⟨a2.block, a2.off + 2, none⟩) (n.drop 2).length (c2 - 2))) (Nat.le_refl _) ⟨2, v0, v1, 0, 0, n.drop 2⟩ (some ⟨a2.block, a2.off + 2, none⟩) (c2 - 2)
    refine event_close (b := w.heap.size) (e := ⟨2, v0, v1, 0, 0, n.drop 2⟩) (A := some ⟨a2.block, a2.off + 2, none⟩) (c := (c2 - 2)) rfl (put6_ev (show IsEv (W2.setCell ⟨b, 5, none⟩ (.slice (some ⟨a2.block, a2.off + 2, none⟩) (n.drop 2).length (c2 - 2))) w.heap.size evZ none 0 from (((Below.refl b W2).setCell (p := ⟨b, 5, none⟩) (Nat.le_refl _) _).block _ (by have := Hb.out; omega)).trans HR.out) ⟨2, v0, v1, 0, 0, n.drop 2⟩ (some ⟨a2.block, a2.off + 2, none⟩) (c2 - 2)) ?_
    obtain ⟨q0, q1, _⟩ := HV.out
    have hfin : e = ⟨2, v0, v1, 0, 0, n.drop 2⟩ := by rw [HEV.out, ← q0, ← q1]
    rw [hfin]
    exact ⟨some ⟨a2.block, a2.off + 2, none⟩, (c2 - 2), rfl, (by show (n.drop 2).length ≤ _; omega), Kd.C_below hD hBf, (fun _ h _ => by injection h with h; exact ⟨a2, rfl, by rw [← h]⟩), hBf⟩

set_option maxHeartbeats 8000000 in
set_option maxRecDepth 100000 in
theorem event_k5 (A : Option Addr) (c : Nat) (ws : List ByteArray) (A2 : Option Addr) (c2 : Nat) (n : List Int) (d : Int) (e : Ev) (hev : e = ⟨5, 0, (n.getD 0 0), 0, 0, n.drop 1⟩) (w : World) (h0 : 0 < ws.length) (hx : ∃ ad, A = some ad ∧ w.cell? ad = some (.string ⟨#[112, 97, 115, 115]⟩)) (hn : 1 ≤ n.length) (hC : Kd.C (Kd.int .i64) w A2 n.length n) (hcc : n.length ≤ c2) :
    Calls Tryd.prog 27 #[.slice A ws.length c, .slice A2 n.length c2, .int .i64 d] w fun x w' => EvOf A2 e w x w' := by
  have HEV := Aside0.mk hev
  clear hev
  obtain ⟨ad, rfl, hc0⟩ := hx
  have i0 : ((ws.length : Int) == 0) = false := by rw [beq_eq_false_iff_ne]; omega
  have i1 : (0 : Int) < (ws.length : Int) := by omega
  have hlt0 := World.block_lt_of_cell? w _ hc0
  have i2 : ((n.length : Int) < 1) = False := eq_false (by omega)
  have i2b : decide ((n.length : Int) < 1) = false := decide_eq_false (by omega)
  have k0 : (0 : Int) < (n.length : Int) := by omega
  obtain ⟨v0, hv0_⟩ : ∃ v, v = n.getD 0 0 := ⟨_, rfl⟩
  obtain ⟨aq, eq, mq⟩ := Kd.at_int hC 0 (by omega) k0
  have hlq : ∀ ad, A2 = some ad → ad.block < w.heap.size := fun ad' h => by rw [eq] at h; injection h with h; rw [← h]; exact World.block_lt_of_cell? w _ mq
  have HC := Aside0.mk hC
  have HV := Aside0.mk (show v0 = n.getD 0 0 ∧ True from ⟨hv0_, trivial⟩)
  clear hC eq mq hv0_
  obtain ⟨b, hb⟩ : ∃ b, b = w.heap.size + 1 := ⟨_, rfl⟩
  go_enter Tryd.func27, Tryd.ntmps27
  go_upto_region 28 with (fail)
  refine wp_gen ?_
  intro W hW
  have HB := Aside0.mk (show Below w.heap.size w W by rw [hW]; exact below_alloc (below_alloc (Below.refl _ w) _) _)
  have HR := Aside0.mk (show IsEv W w.heap.size evZ none 0 by rw [hW]; exact ev_below (alloc_ev (w := w) rfl evZ none 0) ((Below.refl _ _).alloc (Nat.le_refl _) _))
  have HE := Aside0.mk (show IsEv W b ⟨5, 0, 0, 0, 0, []⟩ none 0 by rw [hW, hb]; exact alloc_ev (w := w.alloc (.cells (evCells evZ none 0) 24)) (by simp) ⟨5, 0, 0, 0, 0, []⟩ none 0)
  have Hb := Aside0.mk hb
  clear hW hc0 i0 i1 hlt0
  simp only [← hb]
  clear hb
  obtain ⟨a2, rfl, m0⟩ := Kd.at_int (Kd.C_below HC.out HB.out) 0 (by omega) k0
  replace m0 : W.cell? a2 = some (.int .i64 v0) := Eq.trans m0 (by rw [HV.out.1]; rfl)
  have hlq2 := hlq a2 rfl
  have n1 : a2.block ≠ b := by have := Hb.out; omega
  have n2 : b ≠ a2.block := by have := Hb.out; omega
  obtain ⟨c0, c1, c2', c3, c4, c5, cf⟩ := ev_cells HE.out
  go_upto_region 29 with (fail)
  refine wp_gen ?_
  intro W2 hW
  have hBb : Below b W W2 := by rw [hW]; exact ((Below.refl b W).setCell (p := ⟨b, 2, none⟩) (Nat.le_refl _) _)
  have HE2 := Aside0.mk (show IsEv W2 b ⟨5, 0, v0, 0, 0, []⟩ none 0 by rw [hW]; exact (ev_put (e' := ⟨5, 0, v0, 0, 0, []⟩) (A' := none) (c' := 0) HE.out 2 (.int .i64 v0) rfl))
  have HR2 := Aside0.mk (show IsEv W2 w.heap.size evZ none 0 from (hBb.block _ (by have := Hb.out; omega)).trans HR.out)
  have HB2 := Aside0.mk (HB.out.trans (hBb.mono (by have := Hb.out; omega)))
  clear hW hBb HE HR HB c0 c1 c2' c3 c4 c5 cf m0
  have HE := HE2
  have HR := HR2
  have HB := HB2
  clear HE2 HR2 HB2
  obtain ⟨_, e0, m0⟩ := Kd.at_int (Kd.C_below HC.out HB.out) 0 (by omega) k0
  cases e0
  replace m0 : W2.cell? a2 = some (.int .i64 v0) := Eq.trans m0 (by rw [HV.out.1]; rfl)
  obtain ⟨c0, c1, c2', c3, c4, c5, cf⟩ := ev_cells HE.out
  obtain ⟨r0, r1, r2, r3, r4, r5, rf⟩ := ev_cells HR.out
  have n3 : b ≠ w.heap.size := by have := Hb.out; omega
  have n4 : w.heap.size ≠ b := by have := Hb.out; omega
  go_wp2
  · have hdl : (n.drop 1).length = n.length - 1 := List.length_drop
    have hyes : c2 = 1 := by assumption
    have hD := Kd.C_drop (m := 1) HC.out hn hcc
    rw [if_pos hyes] at hD
    rw [← hdl]
    have hBf := put6_below (HB.out.setCell (p := ⟨b, 5, none⟩) (by have := Hb.out; show w.heap.size ≤ b; omega) (.slice (some a2) (n.drop 1).length 0)) (Nat.le_refl _) ⟨5, 0, v0, 0, 0, n.drop 1⟩ (some a2) 0
    refine event_close (b := w.heap.size) (e := ⟨5, 0, v0, 0, 0, n.drop 1⟩) (A := some a2) (c := 0) rfl (put6_ev (show IsEv (W2.setCell ⟨b, 5, none⟩ (.slice (some a2) (n.drop 1).length 0)) w.heap.size evZ none 0 from (((Below.refl b W2).setCell (p := ⟨b, 5, none⟩) (Nat.le_refl _) _).block _ (by have := Hb.out; omega)).trans HR.out) ⟨5, 0, v0, 0, 0, n.drop 1⟩ (some a2) 0) ?_
    obtain ⟨q0, _⟩ := HV.out
    have hfin : e = ⟨5, 0, v0, 0, 0, n.drop 1⟩ := by rw [HEV.out, ← q0]
    rw [hfin]
    exact ⟨some a2, 0, rfl, (by show (n.drop 1).length ≤ _; omega), Kd.C_below hD hBf, (fun _ h _ => by injection h with h; exact ⟨a2, rfl, by rw [← h]⟩), hBf⟩
  · have hdl : (n.drop 1).length = n.length - 1 := List.length_drop
    have hne : ¬ c2 = 1 := by assumption
    have hD := Kd.C_drop (m := 1) HC.out hn hcc
    rw [if_neg hne] at hD
    rw [← hdl]
    have hBf := put6_below (HB.out.setCell (p := ⟨b, 5, none⟩) (by have := Hb.out; show w.heap.size ≤ b; omega) (.slice (some ⟨a2.block, a2.off + 1, none⟩) (n.drop 1).length (c2 - 1))) (Nat.le_refl _) ⟨5, 0, v0, 0, 0, n.drop 1⟩ (some ⟨a2.block, a2.off + 1, none⟩) (c2 - 1)
    refine event_close (b := w.heap.size) (e := ⟨5, 0, v0, 0, 0, n.drop 1⟩) (A := some ⟨a2.block, a2.off + 1, none⟩) (c := (c2 - 1)) rfl (put6_ev (show IsEv (W2.setCell ⟨b, 5, none⟩ (.slice (some ⟨a2.block, a2.off + 1, none⟩) (n.drop 1).length (c2 - 1))) w.heap.size evZ none 0 from (((Below.refl b W2).setCell (p := ⟨b, 5, none⟩) (Nat.le_refl _) _).block _ (by have := Hb.out; omega)).trans HR.out) ⟨5, 0, v0, 0, 0, n.drop 1⟩ (some ⟨a2.block, a2.off + 1, none⟩) (c2 - 1)) ?_
    obtain ⟨q0, _⟩ := HV.out
    have hfin : e = ⟨5, 0, v0, 0, 0, n.drop 1⟩ := by rw [HEV.out, ← q0]
    rw [hfin]
    exact ⟨some ⟨a2.block, a2.off + 1, none⟩, (c2 - 1), rfl, (by show (n.drop 1).length ≤ _; omega), Kd.C_below hD hBf, (fun _ h _ => by injection h with h; exact ⟨a2, rfl, by rw [← h]⟩), hBf⟩

set_option maxHeartbeats 8000000 in
set_option maxRecDepth 100000 in
theorem event_s0 (A : Option Addr) (c : Nat) (ws : List ByteArray) (A2 : Option Addr) (c2 : Nat) (n : List Int) (d : Int) (w : World) (h0 : 0 < ws.length) (x0 : ByteArray) (hx : ∃ ad, A = some ad ∧ w.cell? ad = some (.string x0)) (hw1 : x0 ≠ ⟨#[115, 117, 98, 109, 105, 116]⟩) (hw2 : x0 ≠ ⟨#[115, 116, 97, 114, 116]⟩) (hw3 : x0 ≠ ⟨#[101, 110, 100]⟩) (hw4 : x0 ≠ ⟨#[112, 105, 110]⟩) (hw5 : x0 ≠ ⟨#[112, 97, 115, 115]⟩) (hw6 : x0 ≠ ⟨#[116, 105, 99, 107]⟩) (hw7 : x0 ≠ ⟨#[100, 101, 99, 97, 121]⟩) (hn : n.length < 2) :
    Calls Tryd.prog 27 #[.slice A ws.length c, .slice A2 n.length c2, .int .i64 d] w fun x w' => EvOf A2 evZ w x w' := by
  obtain ⟨ad, rfl, hc0⟩ := hx
  have i0 : ((ws.length : Int) == 0) = false := by rw [beq_eq_false_iff_ne]; omega
  have i1 : (0 : Int) < (ws.length : Int) := by omega
  have hlt0 := World.block_lt_of_cell? w _ hc0
  have hv1 : (x0.toList == (⟨#[115, 117, 98, 109, 105, 116]⟩ : ByteArray).toList) = false := by rw [beq_eq_false_iff_ne]; exact fun h => hw1 (by rw [← ofL_data x0, ← toList_data, h, toList_data, ofL_data])
  have hv2 : (x0.toList == (⟨#[115, 116, 97, 114, 116]⟩ : ByteArray).toList) = false := by rw [beq_eq_false_iff_ne]; exact fun h => hw2 (by rw [← ofL_data x0, ← toList_data, h, toList_data, ofL_data])
  have hv3 : (x0.toList == (⟨#[101, 110, 100]⟩ : ByteArray).toList) = false := by rw [beq_eq_false_iff_ne]; exact fun h => hw3 (by rw [← ofL_data x0, ← toList_data, h, toList_data, ofL_data])
  have hv4 : (x0.toList == (⟨#[112, 105, 110]⟩ : ByteArray).toList) = false := by rw [beq_eq_false_iff_ne]; exact fun h => hw4 (by rw [← ofL_data x0, ← toList_data, h, toList_data, ofL_data])
  have hv5 : (x0.toList == (⟨#[112, 97, 115, 115]⟩ : ByteArray).toList) = false := by rw [beq_eq_false_iff_ne]; exact fun h => hw5 (by rw [← ofL_data x0, ← toList_data, h, toList_data, ofL_data])
  have hv6 : (x0.toList == (⟨#[116, 105, 99, 107]⟩ : ByteArray).toList) = false := by rw [beq_eq_false_iff_ne]; exact fun h => hw6 (by rw [← ofL_data x0, ← toList_data, h, toList_data, ofL_data])
  have hv7 : (x0.toList == (⟨#[100, 101, 99, 97, 121]⟩ : ByteArray).toList) = false := by rw [beq_eq_false_iff_ne]; exact fun h => hw7 (by rw [← ofL_data x0, ← toList_data, h, toList_data, ofL_data])
  have hu1 : (x0.toList == [115, 117, 98, 109, 105, 116]) = false := by rw [beq_eq_false_iff_ne]; exact fun h => hw1 (by rw [← ofL_data x0, ← toList_data, h]; rfl)
  have hu2 : (x0.toList == [115, 116, 97, 114, 116]) = false := by rw [beq_eq_false_iff_ne]; exact fun h => hw2 (by rw [← ofL_data x0, ← toList_data, h]; rfl)
  have hu3 : (x0.toList == [101, 110, 100]) = false := by rw [beq_eq_false_iff_ne]; exact fun h => hw3 (by rw [← ofL_data x0, ← toList_data, h]; rfl)
  have hu4 : (x0.toList == [112, 105, 110]) = false := by rw [beq_eq_false_iff_ne]; exact fun h => hw4 (by rw [← ofL_data x0, ← toList_data, h]; rfl)
  have hu5 : (x0.toList == [112, 97, 115, 115]) = false := by rw [beq_eq_false_iff_ne]; exact fun h => hw5 (by rw [← ofL_data x0, ← toList_data, h]; rfl)
  have hu6 : (x0.toList == [116, 105, 99, 107]) = false := by rw [beq_eq_false_iff_ne]; exact fun h => hw6 (by rw [← ofL_data x0, ← toList_data, h]; rfl)
  have hu7 : (x0.toList == [100, 101, 99, 97, 121]) = false := by rw [beq_eq_false_iff_ne]; exact fun h => hw7 (by rw [← ofL_data x0, ← toList_data, h]; rfl)
  clear hw1 hw2 hw3 hw4 hw5 hw6 hw7
  have i2 : ((n.length : Int) < 2) = True := eq_true (by omega)
  have i2b : decide ((n.length : Int) < 2) = true := decide_eq_true (by omega)
  go_enter Tryd.func27, Tryd.ntmps27
  go_upto_region 20 with (fail)
  refine wp_gen ?_
  intro W hW
  have HB := Aside0.mk (show Below w.heap.size w W by rw [hW]; exact below_alloc (below_alloc (Below.refl _ w) _) _)
  have HR := Aside0.mk (show IsEv W w.heap.size evZ none 0 by rw [hW]; exact ev_below (alloc_ev (w := w) rfl evZ none 0) ((Below.refl _ _).alloc (Nat.le_refl _) _))
  obtain ⟨r0, r1, r2, r3, r4, r5, rf⟩ := ev_cells HR.out
  clear hW hc0 i0 i1 hlt0
  go_wp2
  refine event_close (b := w.heap.size) (e := evZ) (A := none) (c := 0) rfl (put6_ev HR.out evZ none 0) ?_
  exact ⟨none, 0, rfl, Nat.le_refl _, Kd.C_nil _ _, (fun _ h => by cases h), put6_below HB.out (Nat.le_refl _) evZ none 0⟩

set_option maxHeartbeats 8000000 in
set_option maxRecDepth 100000 in
theorem event_s1 (A : Option Addr) (c : Nat) (ws : List ByteArray) (A2 : Option Addr) (c2 : Nat) (n : List Int) (d : Int) (w : World) (h0 : 0 < ws.length) (hx : ∃ ad, A = some ad ∧ w.cell? ad = some (.string ⟨#[115, 117, 98, 109, 105, 116]⟩)) (hn : n.length < 4) :
    Calls Tryd.prog 27 #[.slice A ws.length c, .slice A2 n.length c2, .int .i64 d] w fun x w' => EvOf A2 evZ w x w' := by
  obtain ⟨ad, rfl, hc0⟩ := hx
  have i0 : ((ws.length : Int) == 0) = false := by rw [beq_eq_false_iff_ne]; omega
  have i1 : (0 : Int) < (ws.length : Int) := by omega
  have hlt0 := World.block_lt_of_cell? w _ hc0
  have i2 : ((n.length : Int) < 4) = True := eq_true (by omega)
  have i2b : decide ((n.length : Int) < 4) = true := decide_eq_true (by omega)
  go_enter Tryd.func27, Tryd.ntmps27
  go_upto_region 20 with (fail)
  refine wp_gen ?_
  intro W hW
  have HB := Aside0.mk (show Below w.heap.size w W by rw [hW]; exact below_alloc (below_alloc (Below.refl _ w) _) _)
  have HR := Aside0.mk (show IsEv W w.heap.size evZ none 0 by rw [hW]; exact ev_below (alloc_ev (w := w) rfl evZ none 0) ((Below.refl _ _).alloc (Nat.le_refl _) _))
  obtain ⟨r0, r1, r2, r3, r4, r5, rf⟩ := ev_cells HR.out
  clear hW hc0 i0 i1 hlt0
  go_wp2
  refine event_close (b := w.heap.size) (e := evZ) (A := none) (c := 0) rfl (put6_ev HR.out evZ none 0) ?_
  exact ⟨none, 0, rfl, Nat.le_refl _, Kd.C_nil _ _, (fun _ h => by cases h), put6_below HB.out (Nat.le_refl _) evZ none 0⟩

set_option maxHeartbeats 8000000 in
set_option maxRecDepth 100000 in
theorem event_s2 (A : Option Addr) (c : Nat) (ws : List ByteArray) (A2 : Option Addr) (c2 : Nat) (n : List Int) (d : Int) (w : World) (h0 : 0 < ws.length) (hx : ∃ ad, A = some ad ∧ w.cell? ad = some (.string ⟨#[115, 116, 97, 114, 116]⟩)) (hn : n.length < 2) :
    Calls Tryd.prog 27 #[.slice A ws.length c, .slice A2 n.length c2, .int .i64 d] w fun x w' => EvOf A2 evZ w x w' := by
  obtain ⟨ad, rfl, hc0⟩ := hx
  have i0 : ((ws.length : Int) == 0) = false := by rw [beq_eq_false_iff_ne]; omega
  have i1 : (0 : Int) < (ws.length : Int) := by omega
  have hlt0 := World.block_lt_of_cell? w _ hc0
  have i2 : ((n.length : Int) < 2) = True := eq_true (by omega)
  have i2b : decide ((n.length : Int) < 2) = true := decide_eq_true (by omega)
  go_enter Tryd.func27, Tryd.ntmps27
  go_upto_region 20 with (fail)
  refine wp_gen ?_
  intro W hW
  have HB := Aside0.mk (show Below w.heap.size w W by rw [hW]; exact below_alloc (below_alloc (Below.refl _ w) _) _)
  have HR := Aside0.mk (show IsEv W w.heap.size evZ none 0 by rw [hW]; exact ev_below (alloc_ev (w := w) rfl evZ none 0) ((Below.refl _ _).alloc (Nat.le_refl _) _))
  obtain ⟨r0, r1, r2, r3, r4, r5, rf⟩ := ev_cells HR.out
  clear hW hc0 i0 i1 hlt0
  go_wp2
  refine event_close (b := w.heap.size) (e := evZ) (A := none) (c := 0) rfl (put6_ev HR.out evZ none 0) ?_
  exact ⟨none, 0, rfl, Nat.le_refl _, Kd.C_nil _ _, (fun _ h => by cases h), put6_below HB.out (Nat.le_refl _) evZ none 0⟩

set_option maxHeartbeats 8000000 in
set_option maxRecDepth 100000 in
theorem event_s3 (A : Option Addr) (c : Nat) (ws : List ByteArray) (A2 : Option Addr) (c2 : Nat) (n : List Int) (d : Int) (w : World) (h0 : 0 < ws.length) (hx : ∃ ad, A = some ad ∧ w.cell? ad = some (.string ⟨#[101, 110, 100]⟩)) (hn : n.length < 2) :
    Calls Tryd.prog 27 #[.slice A ws.length c, .slice A2 n.length c2, .int .i64 d] w fun x w' => EvOf A2 evZ w x w' := by
  obtain ⟨ad, rfl, hc0⟩ := hx
  have i0 : ((ws.length : Int) == 0) = false := by rw [beq_eq_false_iff_ne]; omega
  have i1 : (0 : Int) < (ws.length : Int) := by omega
  have hlt0 := World.block_lt_of_cell? w _ hc0
  have i2 : ((n.length : Int) < 2) = True := eq_true (by omega)
  have i2b : decide ((n.length : Int) < 2) = true := decide_eq_true (by omega)
  go_enter Tryd.func27, Tryd.ntmps27
  go_upto_region 20 with (fail)
  refine wp_gen ?_
  intro W hW
  have HB := Aside0.mk (show Below w.heap.size w W by rw [hW]; exact below_alloc (below_alloc (Below.refl _ w) _) _)
  have HR := Aside0.mk (show IsEv W w.heap.size evZ none 0 by rw [hW]; exact ev_below (alloc_ev (w := w) rfl evZ none 0) ((Below.refl _ _).alloc (Nat.le_refl _) _))
  obtain ⟨r0, r1, r2, r3, r4, r5, rf⟩ := ev_cells HR.out
  clear hW hc0 i0 i1 hlt0
  go_wp2
  refine event_close (b := w.heap.size) (e := evZ) (A := none) (c := 0) rfl (put6_ev HR.out evZ none 0) ?_
  exact ⟨none, 0, rfl, Nat.le_refl _, Kd.C_nil _ _, (fun _ h => by cases h), put6_below HB.out (Nat.le_refl _) evZ none 0⟩

set_option maxHeartbeats 8000000 in
set_option maxRecDepth 100000 in
theorem event_s4 (A : Option Addr) (c : Nat) (ws : List ByteArray) (A2 : Option Addr) (c2 : Nat) (n : List Int) (d : Int) (w : World) (h0 : 0 < ws.length) (hx : ∃ ad, A = some ad ∧ w.cell? ad = some (.string ⟨#[112, 105, 110]⟩)) (hn : n.length < 2) :
    Calls Tryd.prog 27 #[.slice A ws.length c, .slice A2 n.length c2, .int .i64 d] w fun x w' => EvOf A2 evZ w x w' := by
  obtain ⟨ad, rfl, hc0⟩ := hx
  have i0 : ((ws.length : Int) == 0) = false := by rw [beq_eq_false_iff_ne]; omega
  have i1 : (0 : Int) < (ws.length : Int) := by omega
  have hlt0 := World.block_lt_of_cell? w _ hc0
  have i2 : ((n.length : Int) < 2) = True := eq_true (by omega)
  have i2b : decide ((n.length : Int) < 2) = true := decide_eq_true (by omega)
  go_enter Tryd.func27, Tryd.ntmps27
  go_upto_region 20 with (fail)
  refine wp_gen ?_
  intro W hW
  have HB := Aside0.mk (show Below w.heap.size w W by rw [hW]; exact below_alloc (below_alloc (Below.refl _ w) _) _)
  have HR := Aside0.mk (show IsEv W w.heap.size evZ none 0 by rw [hW]; exact ev_below (alloc_ev (w := w) rfl evZ none 0) ((Below.refl _ _).alloc (Nat.le_refl _) _))
  obtain ⟨r0, r1, r2, r3, r4, r5, rf⟩ := ev_cells HR.out
  clear hW hc0 i0 i1 hlt0
  go_wp2
  refine event_close (b := w.heap.size) (e := evZ) (A := none) (c := 0) rfl (put6_ev HR.out evZ none 0) ?_
  exact ⟨none, 0, rfl, Nat.le_refl _, Kd.C_nil _ _, (fun _ h => by cases h), put6_below HB.out (Nat.le_refl _) evZ none 0⟩

set_option maxHeartbeats 8000000 in
set_option maxRecDepth 100000 in
theorem event_s5 (A : Option Addr) (c : Nat) (ws : List ByteArray) (A2 : Option Addr) (c2 : Nat) (n : List Int) (d : Int) (w : World) (h0 : 0 < ws.length) (hx : ∃ ad, A = some ad ∧ w.cell? ad = some (.string ⟨#[112, 97, 115, 115]⟩)) (hn : n.length < 1) :
    Calls Tryd.prog 27 #[.slice A ws.length c, .slice A2 n.length c2, .int .i64 d] w fun x w' => EvOf A2 evZ w x w' := by
  obtain ⟨ad, rfl, hc0⟩ := hx
  have i0 : ((ws.length : Int) == 0) = false := by rw [beq_eq_false_iff_ne]; omega
  have i1 : (0 : Int) < (ws.length : Int) := by omega
  have hlt0 := World.block_lt_of_cell? w _ hc0
  have i2 : ((n.length : Int) < 1) = True := eq_true (by omega)
  have i2b : decide ((n.length : Int) < 1) = true := decide_eq_true (by omega)
  go_enter Tryd.func27, Tryd.ntmps27
  go_upto_region 20 with (fail)
  refine wp_gen ?_
  intro W hW
  have HB := Aside0.mk (show Below w.heap.size w W by rw [hW]; exact below_alloc (below_alloc (Below.refl _ w) _) _)
  have HR := Aside0.mk (show IsEv W w.heap.size evZ none 0 by rw [hW]; exact ev_below (alloc_ev (w := w) rfl evZ none 0) ((Below.refl _ _).alloc (Nat.le_refl _) _))
  obtain ⟨r0, r1, r2, r3, r4, r5, rf⟩ := ev_cells HR.out
  clear hW hc0 i0 i1 hlt0
  go_wp2
  refine event_close (b := w.heap.size) (e := evZ) (A := none) (c := 0) rfl (put6_ev HR.out evZ none 0) ?_
  exact ⟨none, 0, rfl, Nat.le_refl _, Kd.C_nil _ _, (fun _ h => by cases h), put6_below HB.out (Nat.le_refl _) evZ none 0⟩

set_option maxHeartbeats 8000000 in
set_option maxRecDepth 100000 in
theorem event_s6 (A : Option Addr) (c : Nat) (ws : List ByteArray) (A2 : Option Addr) (c2 : Nat) (n : List Int) (d : Int) (w : World) (h0 : 0 < ws.length) (hx : ∃ ad, A = some ad ∧ w.cell? ad = some (.string ⟨#[116, 105, 99, 107]⟩)) (hn : n.length < 1) :
    Calls Tryd.prog 27 #[.slice A ws.length c, .slice A2 n.length c2, .int .i64 d] w fun x w' => EvOf A2 evZ w x w' := by
  obtain ⟨ad, rfl, hc0⟩ := hx
  have i0 : ((ws.length : Int) == 0) = false := by rw [beq_eq_false_iff_ne]; omega
  have i1 : (0 : Int) < (ws.length : Int) := by omega
  have hlt0 := World.block_lt_of_cell? w _ hc0
  have i2 : ((n.length : Int) < 1) = True := eq_true (by omega)
  have i2b : decide ((n.length : Int) < 1) = true := decide_eq_true (by omega)
  go_enter Tryd.func27, Tryd.ntmps27
  go_upto_region 20 with (fail)
  refine wp_gen ?_
  intro W hW
  have HB := Aside0.mk (show Below w.heap.size w W by rw [hW]; exact below_alloc (below_alloc (Below.refl _ w) _) _)
  have HR := Aside0.mk (show IsEv W w.heap.size evZ none 0 by rw [hW]; exact ev_below (alloc_ev (w := w) rfl evZ none 0) ((Below.refl _ _).alloc (Nat.le_refl _) _))
  obtain ⟨r0, r1, r2, r3, r4, r5, rf⟩ := ev_cells HR.out
  clear hW hc0 i0 i1 hlt0
  go_wp2
  refine event_close (b := w.heap.size) (e := evZ) (A := none) (c := 0) rfl (put6_ev HR.out evZ none 0) ?_
  exact ⟨none, 0, rfl, Nat.le_refl _, Kd.C_nil _ _, (fun _ h => by cases h), put6_below HB.out (Nat.le_refl _) evZ none 0⟩

set_option maxHeartbeats 8000000 in
set_option maxRecDepth 100000 in
theorem event_s7 (A : Option Addr) (c : Nat) (ws : List ByteArray) (A2 : Option Addr) (c2 : Nat) (n : List Int) (d : Int) (w : World) (h0 : 0 < ws.length) (hx : ∃ ad, A = some ad ∧ w.cell? ad = some (.string ⟨#[100, 101, 99, 97, 121]⟩)) (hn : n.length < 1) :
    Calls Tryd.prog 27 #[.slice A ws.length c, .slice A2 n.length c2, .int .i64 d] w fun x w' => EvOf A2 evZ w x w' := by
  obtain ⟨ad, rfl, hc0⟩ := hx
  have i0 : ((ws.length : Int) == 0) = false := by rw [beq_eq_false_iff_ne]; omega
  have i1 : (0 : Int) < (ws.length : Int) := by omega
  have hlt0 := World.block_lt_of_cell? w _ hc0
  have i2 : ((n.length : Int) < 1) = True := eq_true (by omega)
  have i2b : decide ((n.length : Int) < 1) = true := decide_eq_true (by omega)
  go_enter Tryd.func27, Tryd.ntmps27
  go_upto_region 20 with (fail)
  refine wp_gen ?_
  intro W hW
  have HB := Aside0.mk (show Below w.heap.size w W by rw [hW]; exact below_alloc (below_alloc (Below.refl _ w) _) _)
  have HR := Aside0.mk (show IsEv W w.heap.size evZ none 0 by rw [hW]; exact ev_below (alloc_ev (w := w) rfl evZ none 0) ((Below.refl _ _).alloc (Nat.le_refl _) _))
  obtain ⟨r0, r1, r2, r3, r4, r5, rf⟩ := ev_cells HR.out
  clear hW hc0 i0 i1 hlt0
  go_wp2
  refine event_close (b := w.heap.size) (e := evZ) (A := none) (c := 0) rfl (put6_ev HR.out evZ none 0) ?_
  exact ⟨none, 0, rfl, Nat.le_refl _, Kd.C_nil _ _, (fun _ h => by cases h), put6_below HB.out (Nat.le_refl _) evZ none 0⟩

set_option maxHeartbeats 8000000 in
set_option maxRecDepth 100000 in
theorem event_none (A : Option Addr) (c : Nat) (A2 : Option Addr) (c2 : Nat) (n : List Int) (d : Int) (w : World) :
    Calls Tryd.prog 27 #[.slice A 0 c, .slice A2 n.length c2, .int .i64 d] w fun x w' => EvOf A2 evZ w x w' := by
  obtain ⟨b, hb⟩ : ∃ b, b = w.heap.size + 1 := ⟨_, rfl⟩
  go_enter Tryd.func27, Tryd.ntmps27
  go_upto_region 2 with (fail)
  refine wp_gen ?_
  intro W hW
  have HB := Aside0.mk (show Below w.heap.size w W by rw [hW]; exact below_alloc (below_alloc (Below.refl _ w) _) _)
  have HR := Aside0.mk (show IsEv W w.heap.size evZ none 0 by rw [hW]; exact ev_below (alloc_ev (w := w) rfl evZ none 0) ((Below.refl _ _).alloc (Nat.le_refl _) _))
  have HE := Aside0.mk (show IsEv W b evZ none 0 by rw [hW, hb]; exact alloc_ev (w := w.alloc (.cells (evCells evZ none 0) 24)) (by simp) evZ none 0)
  have Hb := Aside0.mk hb
  clear hW
  simp only [← hb]
  clear hb
  obtain ⟨r0, r1, r2, r3, r4, r5, rf⟩ := ev_cells HR.out
  obtain ⟨c0, c1, c2', c3, c4, c5, cf⟩ := ev_cells HE.out
  have n3 : b ≠ w.heap.size := by have := Hb.out; omega
  have n4 : w.heap.size ≠ b := by have := Hb.out; omega
  go_wp2
  refine event_close (b := w.heap.size) (e := evZ) (A := none) (c := 0) rfl (put6_ev HR.out evZ none 0) ?_
  exact ⟨none, 0, rfl, Nat.le_refl _, Kd.C_nil _ _, (fun _ h => by cases h), put6_below HB.out (Nat.le_refl _) evZ none 0⟩

end Go.Proofs.YtokioddaonknpaaDoor.A
