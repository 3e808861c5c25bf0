/- Own text (printed by gen11.py): the walk of the reference's only at the kinds that have calls in a region. -/
import Derived.Test.YtokioddaonknpaaDoorE11
import Derived.Deep.RegionHeld3
namespace Go.Proofs.YtokioddaonknpaaDoor.A
open Go.RowKit Go.Proofs.YtokioddaonknpaaDoorW.PrintWords Go.Proofs.YtokioddaonknpaaDoor.PAnswersReads
set_option linter.unusedSimpArgs false
set_option linter.unusedVariables false

theorem rst_any (n : Int) (w : World) : Calls Tryd.prog 29 #[.int .i64 n] w fun e w' => e = .returned (.string (ofL (stateL n))) ∧ Drawn0 w w' := backfillref09_state.calls n _ w (rstate_f n)
theorem rdrawn_below {w w' : World} (h : Drawn0 w w') : Below w.heap.size w w' := by
  obtain ⟨⟨n, rfl⟩⟩ := h
  exact pw_below_drewN (Below.refl _ _) _
theorem fresh_R (l : List ByteArray) (hl : l.length ≤ 100) (W : World) (t : TypeId) (base : Nat) (hb : base ≤ W.heap.size) : Kd.R Kd.string 9 (W.alloc (.cells (l.map Value.string).toArray 9)) base (fun _ => True) (.slice (some ⟨W.heap.size, 0, none⟩) l.length l.length) l := by
  refine Kd.R_of_own ?_ (fun _ _ => trivial)
  have h2 := World.ownsRow_lit (base := base) (e := 9) (size := 1) W (l.map Value.string).toArray l.length hb (by simp only [maxLen]; omega) (by simp)
  simpa [encs] using h2
theorem only_end2 {w W w7 : World} {b : Nat} {o : Ev} {A : Option Addr} {c : Nat} {A7 : Option Addr} {c7 : Nat} {ws : List ByteArray} {tmps : Array Value} (h2 : tmps[2]?.getD undef = .pointer (some ⟨b, 0, none⟩)) (h3 : tmps[3]?.getD undef = .slice A7 ws.length c7) (hR : IsEv w7 b evZ none 0) (hBw : Below w.heap.size w w7) (hb : w.heap.size ≤ b) (hbW : b < W.heap.size)
    (hC : Kd.C (Kd.int .i64) w A o.list.length o.list) (hc : o.list.length ≤ c) (hS : Kd.string.R 9 w7 W.heap.size (fun _ => True) (.slice A7 ws.length c7) ws) :
    bodyPost Tryd.prog Tryd.f19 (OnlyPost o ws w) .ret { tmps := tmps, defers := [] } (put6 w7 b o A c) := by
  refine only_close h2 h3 (put6_ev hR o A c) ?_
  obtain ⟨_, hs1, hs2⟩ := Kd.R_reads' hS
  refine ⟨A, c, A7, c7, rfl, hs1, hc, Kd.C_keep 0 (Kd.C_below hC hBw) (put6_keep _ _ _ _ _) (Kd.far_C 0 hC hb), Kd.C_keep ByteArray.empty hs2 (put6_keep _ _ _ _ _) (fun ad had hp => ?_), put6_below hBw hb o A c⟩
  obtain ⟨g3, cap3, h3, hg3, _⟩ := Kd.R_form hS hp
  injection h3 with h3 _ _
  rw [had] at h3
  injection h3 with h3
  rw [h3]
  show g3 ≠ b
  omega
theorem app_step {ops : Array Oper} {a : Act} {W w0 : World} {o : Oper} {Kc : Act → World → Prop} {Q : Exit → Act → World → Prop} (s x : Operand) (hw : Region.wanted o (yielded ops a.tmps) = true)
    (ho : o.op = .call { callee := .builtin .append, args := #[s, x], argTypes := #[52, 52] }) (xs ys : List ByteArray) (base : Nat) {v : Value} {A : Option Addr} {m c : Nat} (hs : a.eval s = v) (hx : a.eval x = .slice A m c)
    (HO : Kd.string.R 9 W base (fun _ => True) v xs) (HR : Kd.C Kd.string W A m ys) (HB : Below base w0 W) (hbase : base ≤ W.heap.size) (hl : xs.length + m ≤ 8796093022208)
    (h : ∀ v1 w1, Kd.string.R 9 w1 base (fun _ => True) v1 (xs ++ ys) → Below base w0 w1 → Kc (a.put o.dst v1) w1) :
    if Region.wanted o (yielded ops a.tmps) = true then Oper.wp Tryd.prog o a W Kc Q else Kc (a.put o.dst undef) W := by
  refine Kd.R_append_rows_step Kd.string (Rr := Kd.string.K W) (w0 := w0) base hw s x 52 9 (.string ⟨#[]⟩) 16 ho Tryd.underlying52 infoS rfl (by decide) (by decide) v xs ys A m c (fun _ => True) (fun _ => False) hs hx HO HR (fun _ _ h => h) (fun _ hk => hk.elim) (fun _ _ => trivial) HB hbase (by omega) ?_
  exact fun v1 w1 h1 h2 _ _ => h v1 w1 h1 h2

set_option maxHeartbeats 8000000 in
set_option maxRecDepth 100000 in
theorem only_k1 (jb tm nd lm : Int) (n : Nat) (A : Option Addr) (c : Nat) (w : World) (hE : Env w) (hj : Rng jb) (ht : Rng tm) (hn : Rng nd) (hm : Rng lm) :
    Calls Tryd.prog 19 #[.agg #[.int .i64 1, .int .i64 jb, .int .i64 tm, .int .i64 nd, .int .i64 lm, .slice A n c]] w (OnlyPost ⟨1, jb, tm, nd, lm, []⟩ [ofL wSubmit, ofL (Lib.itoa jb), ofL (Lib.itoa tm), ofL (Lib.itoa nd), ofL (Lib.itoa lm)] w) := by
  have gjb := fun W hE => digits_any jb hj W hE
  obtain ⟨sjb, hjb_⟩ : ∃ y, y = ofL (Lib.itoa jb) := ⟨_, rfl⟩
  rw [← hjb_] at gjb ⊢
  have Gjb := Lib.hid gjb
  have gtm := fun W hE => digits_any tm ht W hE
  obtain ⟨stm, htm_⟩ : ∃ y, y = ofL (Lib.itoa tm) := ⟨_, rfl⟩
  rw [← htm_] at gtm ⊢
  have Gtm := Lib.hid gtm
  have gnd := fun W hE => digits_any nd hn W hE
  obtain ⟨snd, hnd_⟩ : ∃ y, y = ofL (Lib.itoa nd) := ⟨_, rfl⟩
  rw [← hnd_] at gnd ⊢
  have Gnd := Lib.hid gnd
  have glm := fun W hE => digits_any lm hm W hE
  obtain ⟨slm, hlm_⟩ : ∃ y, y = ofL (Lib.itoa lm) := ⟨_, rfl⟩
  rw [← hlm_] at glm ⊢
  have Glm := Lib.hid glm
  have HE := Aside0.mk hE
  clear hE gjb hjb_ hj gtm htm_ ht gnd hnd_ hn glm hlm_ hm
  go_enter Tryd.func19, Tryd.ntmps19
  go_wp2_with (fail)
  go_region
  go_wp2_with (fail)
  refine wp_gen ?_
  intro W hW
  have HB := Aside0.mk (show Below w.heap.size w W by rw [hW]; exact below_drew (below_alloc (below_alloc (below_alloc (Below.refl _ w) _) _) _))
  have HR := Aside0.mk (show IsEv W (w.heap.size + 1) evZ none 0 by rw [hW]; exact ev_below (ev_below (alloc_ev (w := w.alloc _) (by simp) evZ none 0) ((Below.refl _ _).alloc (Nat.le_refl _) _)) (below_drew (Below.refl _ _)))
  have HO := Aside0.mk (show IsEv W (w.heap.size + 1 + 1) ⟨1, jb, tm, nd, lm, []⟩ none 0 by rw [hW]; exact ev_below (alloc_ev (w := (w.alloc _).alloc _) (by simp) ⟨1, jb, tm, nd, lm, []⟩ none 0) (below_drew (Below.refl _ _)))
  have c1 : W.cell? ⟨w.heap.size, 1, none⟩ = some (.int .i64 jb) := by rw [hW]; go_simp
  have c2 : W.cell? ⟨w.heap.size, 2, none⟩ = some (.int .i64 tm) := by rw [hW]; go_simp
  have c3 : W.cell? ⟨w.heap.size, 3, none⟩ = some (.int .i64 nd) := by rw [hW]; go_simp
  have c4 : W.cell? ⟨w.heap.size, 4, none⟩ = some (.int .i64 lm) := by rw [hW]; go_simp
  clear hW
  have HV := Aside0.mk (HE.out.step HB.out)
  clear HE
  go_region_held3 (fun w' => w'.cell? ⟨w.heap.size, 1, none⟩ = some (.int .i64 jb) ∧ w'.cell? ⟨w.heap.size, 2, none⟩ = some (.int .i64 tm) ∧ w'.cell? ⟨w.heap.size, 3, none⟩ = some (.int .i64 nd) ∧ w'.cell? ⟨w.heap.size, 4, none⟩ = some (.int .i64 lm))
    (first | (go_split_ands; (with_reducible refine ⟨?_, ?_, ?_, ?_⟩) <;> (with_reducible refine (hbI.cell (p := ⟨w.heap.size, _, none⟩) ?_).trans ?_) <;> first | (with_reducible assumption) | (exact World.block_lt_of_cell? _ _ (by with_reducible assumption))) | go_keep)
    (first | (go_at_call 43; with_reducible refine Calls.mono (Gjb.out _ ?ae) ?_; (case ae => refine HV.out.step ?_; with_reducible repeat (first | exact Below.refl _ _ | assumption | refine below_alloc ?_ _ | refine below_drew ?_ | refine pw_below_drewN ?_ _)); rintro e4 w4 ⟨rfl, hbI⟩; have hb4 : Below W.heap.size W w4 := below_step (by with_reducible repeat (first | exact Below.refl _ _ | assumption | refine below_alloc ?_ _ | refine below_drew ?_ | refine pw_below_drewN ?_ _)) hbI; have hs4 : W.heap.size ≤ w4.heap.size := hb4.size) | (go_at_call 43; with_reducible refine Calls.mono (Gtm.out _ ?ae) ?_; (case ae => refine HV.out.step ?_; with_reducible repeat (first | exact Below.refl _ _ | assumption | refine below_alloc ?_ _ | refine below_drew ?_ | refine pw_below_drewN ?_ _)); rintro e4 w4 ⟨rfl, hbI⟩; have hb4 : Below W.heap.size W w4 := below_step (by with_reducible repeat (first | exact Below.refl _ _ | assumption | refine below_alloc ?_ _ | refine below_drew ?_ | refine pw_below_drewN ?_ _)) hbI; have hs4 : W.heap.size ≤ w4.heap.size := hb4.size) | (go_at_call 43; with_reducible refine Calls.mono (Gnd.out _ ?ae) ?_; (case ae => refine HV.out.step ?_; with_reducible repeat (first | exact Below.refl _ _ | assumption | refine below_alloc ?_ _ | refine below_drew ?_ | refine pw_below_drewN ?_ _)); rintro e4 w4 ⟨rfl, hbI⟩; have hb4 : Below W.heap.size W w4 := below_step (by with_reducible repeat (first | exact Below.refl _ _ | assumption | refine below_alloc ?_ _ | refine below_drew ?_ | refine pw_below_drewN ?_ _)) hbI; have hs4 : W.heap.size ≤ w4.heap.size := hb4.size) | (go_at_call 43; with_reducible refine Calls.mono (Glm.out _ ?ae) ?_; (case ae => refine HV.out.step ?_; with_reducible repeat (first | exact Below.refl _ _ | assumption | refine below_alloc ?_ _ | refine below_drew ?_ | refine pw_below_drewN ?_ _)); rintro e4 w4 ⟨rfl, hbI⟩; have hb4 : Below W.heap.size W w4 := below_step (by with_reducible repeat (first | exact Below.refl _ _ | assumption | refine below_alloc ?_ _ | refine below_drew ?_ | refine pw_below_drewN ?_ _)) hbI; have hs4 : W.heap.size ≤ w4.heap.size := hb4.size))
  have HB1 := Aside0.mk (HB.out.trans (hb4.mono HB.out.size))
  have HR1 := Aside0.mk (ev_below HR.out hb4)
  have HO1 := Aside0.mk (ev_below HO.out hb4)
  obtain ⟨r0, r1, r2, r3, r4, r5, rf⟩ := ev_cells HR1.out
  obtain ⟨o0, o1, o2, o3, o4, o5, of_⟩ := ev_cells HO1.out
  have l1 := blk_lt HR1.out
  have l2 := blk_lt HO1.out
  clear HB HR HO hb4 hbI HV
  go_wp2
  refine only_end (P := put6 w4 (w.heap.size + 1) ⟨1, jb, tm, nd, lm, []⟩ none 0) (ws := [ofL wSubmit, sjb, stm, snd, slm]) rfl rfl (put6_ev HR1.out _ none 0) (put6_size _ _ _ _ _) (by simp) (put6_below HB1.out (by omega) _ none 0) (Kd.C_nil _ _) (Nat.le_refl _)

set_option maxHeartbeats 8000000 in
set_option maxRecDepth 100000 in
theorem only_k2 (jb tm nd lm : Int) (l : List Int) (A : Option Addr) (c : Nat) (w : World) (hE : Env w) (hj : Rng jb) (ht : Rng tm) (hC : Kd.C (Kd.int .i64) w A l.length l) (hc : l.length ≤ c) (hl : l.length ≤ 4294967296) (hr : ∀ n ∈ l, Rng n) :
    Calls Tryd.prog 19 #[.agg #[.int .i64 2, .int .i64 jb, .int .i64 tm, .int .i64 nd, .int .i64 lm, .slice A l.length c]] w (OnlyPost ⟨2, jb, tm, 0, 0, l⟩ ([ofL wStart, ofL (Lib.itoa jb), ofL (Lib.itoa tm)] ++ l.map fun n => ofL (Lib.itoa n)) w) := by
  have gjb := fun W hE => digits_any jb hj W hE
  obtain ⟨sjb, hjb_⟩ : ∃ y, y = ofL (Lib.itoa jb) := ⟨_, rfl⟩
  rw [← hjb_] at gjb ⊢
  have Gjb := Lib.hid gjb
  have gtm := fun W hE => digits_any tm ht W hE
  obtain ⟨stm, htm_⟩ : ∃ y, y = ofL (Lib.itoa tm) := ⟨_, rfl⟩
  rw [← htm_] at gtm ⊢
  have Gtm := Lib.hid gtm
  have ga := fun W hE hC => all_any A c l W hE hC hc hl hr
  have hyl : (l.map fun n => ofL (Lib.itoa n)).length ≤ 4294967296 := by rw [List.length_map]; exact hl
  obtain ⟨ys, hys_⟩ : ∃ y, y = l.map fun n => ofL (Lib.itoa n) := ⟨_, rfl⟩
  rw [← hys_] at ga hyl ⊢
  have Ga := Lib.hid ga
  have HCC := Aside0.mk hc
  have HC := Aside0.mk hC
  have HYL := Aside0.mk hyl
  have HE := Aside0.mk hE
  clear hE hC hc hl hr ga hys_ hyl gjb hjb_ hj gtm htm_ ht
  go_enter Tryd.func19, Tryd.ntmps19
  go_wp2_with (fail)
  go_region
  go_wp2_with (fail)
  refine wp_gen ?_
  intro W hW
  have HB := Aside0.mk (show Below w.heap.size w W by rw [hW]; exact below_drew (below_alloc (below_alloc (below_alloc (Below.refl _ w) _) _) _))
  have HR := Aside0.mk (show IsEv W (w.heap.size + 1) evZ none 0 by rw [hW]; exact ev_below (ev_below (alloc_ev (w := w.alloc _) (by simp) evZ none 0) ((Below.refl _ _).alloc (Nat.le_refl _) _)) (below_drew (Below.refl _ _)))
  have HO := Aside0.mk (show IsEv W (w.heap.size + 1 + 1) ⟨2, jb, tm, 0, 0, l⟩ A c by rw [hW]; exact ev_below (alloc_ev (w := (w.alloc _).alloc _) (by simp) ⟨2, jb, tm, 0, 0, l⟩ A c) (below_drew (Below.refl _ _)))
  have c1 : W.cell? ⟨w.heap.size, 1, none⟩ = some (.int .i64 jb) := by rw [hW]; go_simp
  have c2 : W.cell? ⟨w.heap.size, 2, none⟩ = some (.int .i64 tm) := by rw [hW]; go_simp
  have c5 : W.cell? ⟨w.heap.size, 5, none⟩ = some (.slice A l.length c) := by rw [hW]; go_simp
  clear hW
  have HV := Aside0.mk (HE.out.step HB.out)
  have HCW := Aside0.mk (Kd.C_below HC.out HB.out)
  clear HE
  go_region_held3 (fun w' => w'.cell? ⟨w.heap.size, 1, none⟩ = some (.int .i64 jb) ∧ w'.cell? ⟨w.heap.size, 2, none⟩ = some (.int .i64 tm) ∧ w'.cell? ⟨w.heap.size, 5, none⟩ = some (.slice A l.length c))
    (first | (go_split_ands; (with_reducible refine ⟨?_, ?_, ?_⟩) <;> (with_reducible refine (hbI.cell (p := ⟨w.heap.size, _, none⟩) ?_).trans ?_) <;> first | (with_reducible assumption) | (exact World.block_lt_of_cell? _ _ (by with_reducible assumption))) | go_keep)
    (first | (go_at_call 43; with_reducible refine Calls.mono (Gjb.out _ ?ae) ?_; (case ae => refine HV.out.step ?_; with_reducible repeat (first | exact Below.refl _ _ | assumption | refine below_alloc ?_ _ | refine below_drew ?_ | refine pw_below_drewN ?_ _)); rintro e4 w4 ⟨rfl, hbI⟩; have hb4 : Below W.heap.size W w4 := below_step (by with_reducible repeat (first | exact Below.refl _ _ | assumption | refine below_alloc ?_ _ | refine below_drew ?_ | refine pw_below_drewN ?_ _)) hbI; have hs4 : W.heap.size ≤ w4.heap.size := hb4.size) | (go_at_call 43; with_reducible refine Calls.mono (Gtm.out _ ?ae) ?_; (case ae => refine HV.out.step ?_; with_reducible repeat (first | exact Below.refl _ _ | assumption | refine below_alloc ?_ _ | refine below_drew ?_ | refine pw_below_drewN ?_ _)); rintro e4 w4 ⟨rfl, hbI⟩; have hb4 : Below W.heap.size W w4 := below_step (by with_reducible repeat (first | exact Below.refl _ _ | assumption | refine below_alloc ?_ _ | refine below_drew ?_ | refine pw_below_drewN ?_ _)) hbI; have hs4 : W.heap.size ≤ w4.heap.size := hb4.size) | (go_at_call 44; with_reducible refine Calls.mono (Ga.out _ ?ae ?ac) ?_; (case ae => refine HV.out.step ?_; with_reducible repeat (first | exact Below.refl _ _ | assumption | refine below_alloc ?_ _ | refine below_drew ?_ | refine pw_below_drewN ?_ _)); (case ac => refine Kd.C_below HCW.out ?_; with_reducible repeat (first | exact Below.refl _ _ | assumption | refine below_alloc ?_ _ | refine below_drew ?_ | refine pw_below_drewN ?_ _)); rintro e4 w4 ⟨v4, rfl, hR4, hbI⟩; have hb4 : Below W.heap.size W w4 := below_step (by with_reducible repeat (first | exact Below.refl _ _ | assumption | refine below_alloc ?_ _ | refine below_drew ?_ | refine pw_below_drewN ?_ _)) hbI; have hs4 : W.heap.size ≤ w4.heap.size := hb4.size; obtain ⟨A4, c4, rfl⟩ := Kd.R_slice hR4; have hC4 := (Kd.R_reads' hR4).2.2) | (refine app_step (w0 := W) (.tmp 51) (.tmp 54) (by kernel_rfl) rfl [ofL wStart, sjb, stm] ys W.heap.size rfl rfl ?aO ?aR ?aB ?aS ?aL ?_; (case aO => first | exact fresh_R [ofL wStart, sjb, stm] (Nat.le_of_ble_eq_true rfl) _ 9 _ (by assumption) | exact Kd.R_below (fresh_R [ofL wStart, sjb, stm] (Nat.le_of_ble_eq_true rfl) _ 9 _ (by assumption)) hbI); (case aR => first | exact hC4 | exact Kd.C_alloc hC4 _); (case aB => with_reducible repeat (first | exact Below.refl _ _ | assumption | refine below_alloc ?_ _ | refine below_drew ?_ | refine pw_below_drewN ?_ _)); (case aS => refine Below.size (B := W.heap.size) (w := W) ?_; with_reducible repeat (first | exact Below.refl _ _ | assumption | refine below_alloc ?_ _ | refine below_drew ?_ | refine pw_below_drewN ?_ _)); (case aL => have := HYL.out; simp only [List.length_cons, List.length_nil]; omega); intro v7 w7 ho7 hb7; have hbI := hb7))
  all_goals
    have HB1 := Aside0.mk (HB.out.trans (hb7.mono HB.out.size))
    have HR1 := Aside0.mk (ev_below HR.out hb7)
    have HO1 := Aside0.mk (ev_below HO.out hb7)
    obtain ⟨A7, c7, rfl⟩ := Kd.R_slice ho7
    have HS7 := Aside0.mk ho7
    have HL := Aside0.mk (blk_lt HO.out)
    obtain ⟨r0, r1, r2, r3, r4, r5, rf⟩ := ev_cells HR1.out
    obtain ⟨o0, o1, o2, o3, o4, o5, of_⟩ := ev_cells HO1.out
    have l1 := blk_lt HR1.out
    have l2 := blk_lt HO1.out
    clear HB HR HO hb7 hbI HV ho7 HCW
    go_wp2
    exact only_end2 (o := ⟨2, jb, tm, 0, 0, l⟩) (ws := [ofL wStart, sjb, stm] ++ ys) rfl rfl HR1.out HB1.out (by omega) (by have := HL.out; omega) HC.out HCC.out HS7.out

set_option maxHeartbeats 8000000 in
set_option maxRecDepth 100000 in
theorem only_k3 (jb tm nd lm : Int) (n : Nat) (A : Option Addr) (c : Nat) (w : World) (hE : Env w) (hj : Rng jb) (ht : Rng tm) :
    Calls Tryd.prog 19 #[.agg #[.int .i64 3, .int .i64 jb, .int .i64 tm, .int .i64 nd, .int .i64 lm, .slice A n c]] w (OnlyPost ⟨3, jb, tm, nd, 0, []⟩ [ofL wEnd, ofL (Lib.itoa jb), ofL (Lib.itoa tm), ofL (stateL nd)] w) := by
  have gjb := fun W hE => digits_any jb hj W hE
  obtain ⟨sjb, hjb_⟩ : ∃ y, y = ofL (Lib.itoa jb) := ⟨_, rfl⟩
  rw [← hjb_] at gjb ⊢
  have Gjb := Lib.hid gjb
  have gtm := fun W hE => digits_any tm ht W hE
  obtain ⟨stm, htm_⟩ : ∃ y, y = ofL (Lib.itoa tm) := ⟨_, rfl⟩
  rw [← htm_] at gtm ⊢
  have Gtm := Lib.hid gtm
  have gst := fun W => rst_any nd W
  obtain ⟨sst, hst_⟩ : ∃ y, y = ofL (stateL nd) := ⟨_, rfl⟩
  rw [← hst_] at gst ⊢
  have Gst := Lib.hid gst
  have HE := Aside0.mk hE
  clear hE gjb hjb_ hj gtm htm_ ht gst hst_
  go_enter Tryd.func19, Tryd.ntmps19
  go_wp2_with (fail)
  go_region
  go_wp2_with (fail)
  refine wp_gen ?_
  intro W hW
  have HB := Aside0.mk (show Below w.heap.size w W by rw [hW]; exact below_drew (below_alloc (below_alloc (below_alloc (Below.refl _ w) _) _) _))
  have HR := Aside0.mk (show IsEv W (w.heap.size + 1) evZ none 0 by rw [hW]; exact ev_below (ev_below (alloc_ev (w := w.alloc _) (by simp) evZ none 0) ((Below.refl _ _).alloc (Nat.le_refl _) _)) (below_drew (Below.refl _ _)))
  have HO := Aside0.mk (show IsEv W (w.heap.size + 1 + 1) ⟨3, jb, tm, nd, 0, []⟩ none 0 by rw [hW]; exact ev_below (alloc_ev (w := (w.alloc _).alloc _) (by simp) ⟨3, jb, tm, nd, 0, []⟩ none 0) (below_drew (Below.refl _ _)))
  have c1 : W.cell? ⟨w.heap.size, 1, none⟩ = some (.int .i64 jb) := by rw [hW]; go_simp
  have c2 : W.cell? ⟨w.heap.size, 2, none⟩ = some (.int .i64 tm) := by rw [hW]; go_simp
  have c3 : W.cell? ⟨w.heap.size, 3, none⟩ = some (.int .i64 nd) := by rw [hW]; go_simp
  clear hW
  have HV := Aside0.mk (HE.out.step HB.out)
  clear HE
  go_region_held3 (fun w' => w'.cell? ⟨w.heap.size, 1, none⟩ = some (.int .i64 jb) ∧ w'.cell? ⟨w.heap.size, 2, none⟩ = some (.int .i64 tm) ∧ w'.cell? ⟨w.heap.size, 3, none⟩ = some (.int .i64 nd))
    (first | (go_split_ands; (with_reducible refine ⟨?_, ?_, ?_⟩) <;> (with_reducible refine (hbI.cell (p := ⟨w.heap.size, _, none⟩) ?_).trans ?_) <;> first | (with_reducible assumption) | (exact World.block_lt_of_cell? _ _ (by with_reducible assumption))) | go_keep)
    (first | (go_at_call 43; with_reducible refine Calls.mono (Gjb.out _ ?ae) ?_; (case ae => refine HV.out.step ?_; with_reducible repeat (first | exact Below.refl _ _ | assumption | refine below_alloc ?_ _ | refine below_drew ?_ | refine pw_below_drewN ?_ _)); rintro e4 w4 ⟨rfl, hbI⟩; have hb4 : Below W.heap.size W w4 := below_step (by with_reducible repeat (first | exact Below.refl _ _ | assumption | refine below_alloc ?_ _ | refine below_drew ?_ | refine pw_below_drewN ?_ _)) hbI; have hs4 : W.heap.size ≤ w4.heap.size := hb4.size) | (go_at_call 43; with_reducible refine Calls.mono (Gtm.out _ ?ae) ?_; (case ae => refine HV.out.step ?_; with_reducible repeat (first | exact Below.refl _ _ | assumption | refine below_alloc ?_ _ | refine below_drew ?_ | refine pw_below_drewN ?_ _)); rintro e4 w4 ⟨rfl, hbI⟩; have hb4 : Below W.heap.size W w4 := below_step (by with_reducible repeat (first | exact Below.refl _ _ | assumption | refine below_alloc ?_ _ | refine below_drew ?_ | refine pw_below_drewN ?_ _)) hbI; have hs4 : W.heap.size ≤ w4.heap.size := hb4.size) | (go_at_call 29; refine (Gst.out _).mono ?_; rintro e4 w4 ⟨rfl, hD4⟩; have hbI := rdrawn_below hD4; have hb4 : Below W.heap.size W w4 := below_step (by with_reducible repeat (first | exact Below.refl _ _ | assumption | refine below_alloc ?_ _ | refine below_drew ?_ | refine pw_below_drewN ?_ _)) hbI; have hs4 : W.heap.size ≤ w4.heap.size := hb4.size))
  have HB1 := Aside0.mk (HB.out.trans (hb4.mono HB.out.size))
  have HR1 := Aside0.mk (ev_below HR.out hb4)
  have HO1 := Aside0.mk (ev_below HO.out hb4)
  obtain ⟨r0, r1, r2, r3, r4, r5, rf⟩ := ev_cells HR1.out
  obtain ⟨o0, o1, o2, o3, o4, o5, of_⟩ := ev_cells HO1.out
  have l1 := blk_lt HR1.out
  have l2 := blk_lt HO1.out
  clear HB HR HO hb4 hbI HV
  go_wp2
  refine only_end (P := put6 w4 (w.heap.size + 1) ⟨3, jb, tm, nd, 0, []⟩ none 0) (ws := [ofL wEnd, sjb, stm, sst]) rfl rfl (put6_ev HR1.out _ none 0) (put6_size _ _ _ _ _) (by simp) (put6_below HB1.out (by omega) _ none 0) (Kd.C_nil _ _) (Nat.le_refl _)

set_option maxHeartbeats 8000000 in
set_option maxRecDepth 100000 in
theorem only_k4 (jb tm nd lm : Int) (n : Nat) (A : Option Addr) (c : Nat) (w : World) (hE : Env w) (hj : Rng jb) (ht : Rng tm) :
    Calls Tryd.prog 19 #[.agg #[.int .i64 4, .int .i64 jb, .int .i64 tm, .int .i64 nd, .int .i64 lm, .slice A n c]] w (OnlyPost ⟨4, jb, tm, 0, 0, []⟩ [ofL wPin, ofL (Lib.itoa jb), ofL (Lib.itoa tm)] w) := by
  have gjb := fun W hE => digits_any jb hj W hE
  obtain ⟨sjb, hjb_⟩ : ∃ y, y = ofL (Lib.itoa jb) := ⟨_, rfl⟩
  rw [← hjb_] at gjb ⊢
  have Gjb := Lib.hid gjb
  have gtm := fun W hE => digits_any tm ht W hE
  obtain ⟨stm, htm_⟩ : ∃ y, y = ofL (Lib.itoa tm) := ⟨_, rfl⟩
  rw [← htm_] at gtm ⊢
  have Gtm := Lib.hid gtm
  have HE := Aside0.mk hE
  clear hE gjb hjb_ hj gtm htm_ ht
  go_enter Tryd.func19, Tryd.ntmps19
  go_wp2_with (fail)
  refine wp_gen ?_
  intro W hW
  have HB := Aside0.mk (show Below w.heap.size w W by rw [hW]; exact below_alloc (below_alloc (below_alloc (Below.refl _ w) _) _) _)
  have HR := Aside0.mk (show IsEv W (w.heap.size + 1) evZ none 0 by rw [hW]; exact ev_below (alloc_ev (w := w.alloc _) (by simp) evZ none 0) ((Below.refl _ _).alloc (Nat.le_refl _) _))
  have HO := Aside0.mk (show IsEv W (w.heap.size + 1 + 1) ⟨4, jb, tm, 0, 0, []⟩ none 0 by rw [hW]; exact alloc_ev (w := (w.alloc _).alloc _) (by simp) ⟨4, jb, tm, 0, 0, []⟩ none 0)
  have c1 : W.cell? ⟨w.heap.size, 1, none⟩ = some (.int .i64 jb) := by rw [hW]; go_simp
  have c2 : W.cell? ⟨w.heap.size, 2, none⟩ = some (.int .i64 tm) := by rw [hW]; go_simp
  clear hW
  have HV := Aside0.mk (HE.out.step HB.out)
  clear HE
  go_region_held3 (fun w' => w'.cell? ⟨w.heap.size, 1, none⟩ = some (.int .i64 jb) ∧ w'.cell? ⟨w.heap.size, 2, none⟩ = some (.int .i64 tm))
    (first | (go_split_ands; (with_reducible refine ⟨?_, ?_⟩) <;> (with_reducible refine (hbI.cell (p := ⟨w.heap.size, _, none⟩) ?_).trans ?_) <;> first | (with_reducible assumption) | (exact World.block_lt_of_cell? _ _ (by with_reducible assumption))) | go_keep)
    (first | (go_at_call 43; with_reducible refine Calls.mono (Gjb.out _ ?ae) ?_; (case ae => refine HV.out.step ?_; with_reducible repeat (first | exact Below.refl _ _ | assumption | refine below_alloc ?_ _ | refine below_drew ?_ | refine pw_below_drewN ?_ _)); rintro e4 w4 ⟨rfl, hbI⟩; have hb4 : Below W.heap.size W w4 := below_step (by with_reducible repeat (first | exact Below.refl _ _ | assumption | refine below_alloc ?_ _ | refine below_drew ?_ | refine pw_below_drewN ?_ _)) hbI; have hs4 : W.heap.size ≤ w4.heap.size := hb4.size) | (go_at_call 43; with_reducible refine Calls.mono (Gtm.out _ ?ae) ?_; (case ae => refine HV.out.step ?_; with_reducible repeat (first | exact Below.refl _ _ | assumption | refine below_alloc ?_ _ | refine below_drew ?_ | refine pw_below_drewN ?_ _)); rintro e4 w4 ⟨rfl, hbI⟩; have hb4 : Below W.heap.size W w4 := below_step (by with_reducible repeat (first | exact Below.refl _ _ | assumption | refine below_alloc ?_ _ | refine below_drew ?_ | refine pw_below_drewN ?_ _)) hbI; have hs4 : W.heap.size ≤ w4.heap.size := hb4.size))
  have HB1 := Aside0.mk (HB.out.trans (hb4.mono HB.out.size))
  have HR1 := Aside0.mk (ev_below HR.out hb4)
  have HO1 := Aside0.mk (ev_below HO.out hb4)
  obtain ⟨r0, r1, r2, r3, r4, r5, rf⟩ := ev_cells HR1.out
  obtain ⟨o0, o1, o2, o3, o4, o5, of_⟩ := ev_cells HO1.out
  have l1 := blk_lt HR1.out
  have l2 := blk_lt HO1.out
  clear HB HR HO hb4 hbI HV
  go_wp2
  refine only_end (P := put6 w4 (w.heap.size + 1) ⟨4, jb, tm, 0, 0, []⟩ none 0) (ws := [ofL wPin, sjb, stm]) rfl rfl (put6_ev HR1.out _ none 0) (put6_size _ _ _ _ _) (by simp) (put6_below HB1.out (by omega) _ none 0) (Kd.C_nil _ _) (Nat.le_refl _)

set_option maxHeartbeats 8000000 in
set_option maxRecDepth 100000 in
theorem only_k5 (jb tm nd lm : Int) (l : List Int) (A : Option Addr) (c : Nat) (w : World) (hE : Env w) (ht : Rng tm) (hC : Kd.C (Kd.int .i64) w A l.length l) (hc : l.length ≤ c) (hl : l.length ≤ 4294967296) (hr : ∀ n ∈ l, Rng n) :
    Calls Tryd.prog 19 #[.agg #[.int .i64 5, .int .i64 jb, .int .i64 tm, .int .i64 nd, .int .i64 lm, .slice A l.length c]] w (OnlyPost ⟨5, 0, tm, 0, 0, l⟩ ([ofL wPass, ofL (Lib.itoa tm)] ++ l.map fun n => ofL (Lib.itoa n)) w) := by
  have gtm := fun W hE => digits_any tm ht W hE
  obtain ⟨stm, htm_⟩ : ∃ y, y = ofL (Lib.itoa tm) := ⟨_, rfl⟩
  rw [← htm_] at gtm ⊢
  have Gtm := Lib.hid gtm
  have ga := fun W hE hC => all_any A c l W hE hC hc hl hr
  have hyl : (l.map fun n => ofL (Lib.itoa n)).length ≤ 4294967296 := by rw [List.length_map]; exact hl
  obtain ⟨ys, hys_⟩ : ∃ y, y = l.map fun n => ofL (Lib.itoa n) := ⟨_, rfl⟩
  rw [← hys_] at ga hyl ⊢
  have Ga := Lib.hid ga
  have HCC := Aside0.mk hc
  have HC := Aside0.mk hC
  have HYL := Aside0.mk hyl
  have HE := Aside0.mk hE
  clear hE hC hc hl hr ga hys_ hyl gtm htm_ ht
  go_enter Tryd.func19, Tryd.ntmps19
  go_wp2_with (fail)
  refine wp_gen ?_
  intro W hW
  have HB := Aside0.mk (show Below w.heap.size w W by rw [hW]; exact below_alloc (below_alloc (below_alloc (Below.refl _ w) _) _) _)
  have HR := Aside0.mk (show IsEv W (w.heap.size + 1) evZ none 0 by rw [hW]; exact ev_below (alloc_ev (w := w.alloc _) (by simp) evZ none 0) ((Below.refl _ _).alloc (Nat.le_refl _) _))
  have HO := Aside0.mk (show IsEv W (w.heap.size + 1 + 1) ⟨5, 0, tm, 0, 0, l⟩ A c by rw [hW]; exact alloc_ev (w := (w.alloc _).alloc _) (by simp) ⟨5, 0, tm, 0, 0, l⟩ A c)
  have c2 : W.cell? ⟨w.heap.size, 2, none⟩ = some (.int .i64 tm) := by rw [hW]; go_simp
  have c5 : W.cell? ⟨w.heap.size, 5, none⟩ = some (.slice A l.length c) := by rw [hW]; go_simp
  clear hW
  have HV := Aside0.mk (HE.out.step HB.out)
  have HCW := Aside0.mk (Kd.C_below HC.out HB.out)
  clear HE
  go_region_held3 (fun w' => w'.cell? ⟨w.heap.size, 2, none⟩ = some (.int .i64 tm) ∧ w'.cell? ⟨w.heap.size, 5, none⟩ = some (.slice A l.length c))
    (first | (go_split_ands; (with_reducible refine ⟨?_, ?_⟩) <;> (with_reducible refine (hbI.cell (p := ⟨w.heap.size, _, none⟩) ?_).trans ?_) <;> first | (with_reducible assumption) | (exact World.block_lt_of_cell? _ _ (by with_reducible assumption))) | go_keep)
    (first | (go_at_call 43; with_reducible refine Calls.mono (Gtm.out _ ?ae) ?_; (case ae => refine HV.out.step ?_; with_reducible repeat (first | exact Below.refl _ _ | assumption | refine below_alloc ?_ _ | refine below_drew ?_ | refine pw_below_drewN ?_ _)); rintro e4 w4 ⟨rfl, hbI⟩; have hb4 : Below W.heap.size W w4 := below_step (by with_reducible repeat (first | exact Below.refl _ _ | assumption | refine below_alloc ?_ _ | refine below_drew ?_ | refine pw_below_drewN ?_ _)) hbI; have hs4 : W.heap.size ≤ w4.heap.size := hb4.size) | (go_at_call 44; with_reducible refine Calls.mono (Ga.out _ ?ae ?ac) ?_; (case ae => refine HV.out.step ?_; with_reducible repeat (first | exact Below.refl _ _ | assumption | refine below_alloc ?_ _ | refine below_drew ?_ | refine pw_below_drewN ?_ _)); (case ac => refine Kd.C_below HCW.out ?_; with_reducible repeat (first | exact Below.refl _ _ | assumption | refine below_alloc ?_ _ | refine below_drew ?_ | refine pw_below_drewN ?_ _)); rintro e4 w4 ⟨v4, rfl, hR4, hbI⟩; have hb4 : Below W.heap.size W w4 := below_step (by with_reducible repeat (first | exact Below.refl _ _ | assumption | refine below_alloc ?_ _ | refine below_drew ?_ | refine pw_below_drewN ?_ _)) hbI; have hs4 : W.heap.size ≤ w4.heap.size := hb4.size; obtain ⟨A4, c4, rfl⟩ := Kd.R_slice hR4; have hC4 := (Kd.R_reads' hR4).2.2) | (refine app_step (w0 := W) (.tmp 94) (.tmp 97) (by kernel_rfl) rfl [ofL wPass, stm] ys W.heap.size rfl rfl ?aO ?aR ?aB ?aS ?aL ?_; (case aO => first | exact fresh_R [ofL wPass, stm] (Nat.le_of_ble_eq_true rfl) _ 9 _ (by assumption) | exact Kd.R_below (fresh_R [ofL wPass, stm] (Nat.le_of_ble_eq_true rfl) _ 9 _ (by assumption)) hbI); (case aR => first | exact hC4 | exact Kd.C_alloc hC4 _); (case aB => with_reducible repeat (first | exact Below.refl _ _ | assumption | refine below_alloc ?_ _ | refine below_drew ?_ | refine pw_below_drewN ?_ _)); (case aS => refine Below.size (B := W.heap.size) (w := W) ?_; with_reducible repeat (first | exact Below.refl _ _ | assumption | refine below_alloc ?_ _ | refine below_drew ?_ | refine pw_below_drewN ?_ _)); (case aL => have := HYL.out; simp only [List.length_cons, List.length_nil]; omega); intro v7 w7 ho7 hb7; have hbI := hb7))
  all_goals
    have HB1 := Aside0.mk (HB.out.trans (hb7.mono HB.out.size))
    have HR1 := Aside0.mk (ev_below HR.out hb7)
    have HO1 := Aside0.mk (ev_below HO.out hb7)
    obtain ⟨A7, c7, rfl⟩ := Kd.R_slice ho7
    have HS7 := Aside0.mk ho7
    have HL := Aside0.mk (blk_lt HO.out)
    obtain ⟨r0, r1, r2, r3, r4, r5, rf⟩ := ev_cells HR1.out
    obtain ⟨o0, o1, o2, o3, o4, o5, of_⟩ := ev_cells HO1.out
    have l1 := blk_lt HR1.out
    have l2 := blk_lt HO1.out
    clear HB HR HO hb7 hbI HV ho7 HCW
    go_wp2
    exact only_end2 (o := ⟨5, 0, tm, 0, 0, l⟩) (ws := [ofL wPass, stm] ++ ys) rfl rfl HR1.out HB1.out (by omega) (by have := HL.out; omega) HC.out HCC.out HS7.out

set_option maxHeartbeats 8000000 in
set_option maxRecDepth 100000 in
theorem only_none (k jb tm nd lm : Int) (n : Nat) (A : Option Addr) (c : Nat) (w : World) (hk : k < 1 ∨ 7 < k) :
    Calls Tryd.prog 19 #[.agg #[.int .i64 k, .int .i64 jb, .int .i64 tm, .int .i64 nd, .int .i64 lm, .slice A n c]] w (OnlyPost ⟨k, 0, tm, 0, 0, []⟩ [] w) := by
  have e1 : (k == 1) = false := by rw [beq_eq_false_iff_ne]; omega
  have e2 : (k == 2) = false := by rw [beq_eq_false_iff_ne]; omega
  have e3 : (k == 3) = false := by rw [beq_eq_false_iff_ne]; omega
  have e4 : (k == 4) = false := by rw [beq_eq_false_iff_ne]; omega
  have e5 : (k == 5) = false := by rw [beq_eq_false_iff_ne]; omega
  have e6 : (k == 6) = false := by rw [beq_eq_false_iff_ne]; omega
  have e7 : (k == 7) = false := by rw [beq_eq_false_iff_ne]; omega
  clear hk
  go_enter Tryd.func19, Tryd.ntmps19
  go_wp2
  have hI : IsEv ((((w.alloc (.cells #[.int .i64 k, .int .i64 jb, .int .i64 tm, .int .i64 nd, .int .i64 lm, .slice A n c] 24)).alloc (.cells (evCells ⟨k, 0, tm, 0, 0, []⟩ none 0) 24)).alloc (.cells (evCells ⟨k, 0, tm, 0, 0, []⟩ none 0) 24))) (w.heap.size + 1) ⟨k, 0, tm, 0, 0, []⟩ none 0 := ev_below (alloc_ev (w := w.alloc _) (by simp) ⟨k, 0, tm, 0, 0, []⟩ none 0) ((Below.refl _ _).alloc (Nat.le_refl _) _)
  refine only_close rfl rfl hI ?_
  exact ⟨none, 0, none, 0, rfl, Nat.le_refl _, Nat.le_refl _, Kd.C_nil _ _, Kd.C_nil _ _, below_alloc (below_alloc (below_alloc (Below.refl _ w) _) _) _⟩

end Go.Proofs.YtokioddaonknpaaDoor.A
