/- Own text (printed by gen9.py): the walk of answers.ReadEvent. -/
import Derived.Test.YtokioddaonknpaaDoorE8
namespace Go.Proofs.YtokioddaonknpaaDoor.A
open Go.RowKit Go.Proofs.YtokioddaonknpaaDoorW.PrintWords Go.Proofs.YtokioddaonknpaaDoorW.PrintMore Go.Proofs.YtokioddaonknpaaDoor.PAnswersReads
set_option linter.unusedSimpArgs false

theorem stateOf_any (a : ByteArray) (w : World) : Calls Tryd.prog 25 #[.string a] w fun e w' => e = .returned (.int .i64 (stateN a.data.toList)) ∧ Drawn0 w w' := answers_stateOf.calls 8 a _ w (stateOf_f a)
/-- What is read, handed back. -/
def RdOf (r : Ev × Int) (w : World) (x : Ending) (w' : World) : Prop := ∃ A c, x = .returned (.tuple #[.agg (evCells r.1 A c), .int .i64 r.2]) ∧ r.1.list.length ≤ c ∧ Kd.C (Kd.int .i64) w' A r.1.list.length r.1.list ∧ Below w.heap.size w w'
theorem splA_len (l : List UInt8) : ∀ cur, ∀ x ∈ splA cur l, x.length ≤ cur.length + l.length := by
  induction l with
  | nil => intro cur x hx; simp [splA] at hx; subst hx; simp
  | cons c r ih =>
    intro cur x hx
    rw [splA] at hx
    split at hx
    · rcases List.mem_cons.1 hx with rfl | hx
      · omega
      · have := ih [] x hx; simp at this ⊢; omega
    · have := ih (cur ++ [c]) x hx; simp at this ⊢; omega
theorem splA_num (l : List UInt8) : ∀ cur, (splA cur l).length ≤ l.length + 1 := by
  induction l with
  | nil => intro cur; simp [splA]
  | cons c r ih =>
    intro cur
    rw [splA]
    split
    · have := ih []; simp; omega
    · have := ih (cur ++ [c]); simp; omega
/-- The rest of a reading: of words, of numbers, of an end. -/
def restC (s : List UInt8) (ws : List (List UInt8)) (d : Int) : Ev × Int := match canons ws.tail with
  | none => (evZ, 90)
  | some n => if okP (evOf ws n d) ∧ evT (evOf ws n d) = s then (evOf ws n d, 0) else (evZ, 90)
theorem rdC_rest (s : List UInt8) : rdC s = restC s (headsW (splA [] s)) (endedW (splA [] s)) := rfl
theorem evOf_list (ws : List (List UInt8)) (n : List Int) (d : Int) : (evOf ws n d).list.length ≤ n.length := by
  unfold evOf
  split
  · exact Nat.zero_le _
  · split
    · exact Nat.zero_le _
    · dsimp only
      split
      · rw [List.length_drop]; omega
      · exact Nat.zero_le _
theorem put6_keep (w : World) (b : Nat) (e : Ev) (A : Option Addr) (c : Nat) : KeepBut w (put6 w b e A c) b none :=
  ((((((KeepBut.refl w b none).set_ 0 _).set_ 1 _).set_ 2 _).set_ 3 _).set_ 4 _).set_ 5 _
theorem rd_close {R : Ending → World → Prop} {w' : World} {b : Nat} {e : Ev} {A : Option Addr} {c : Nat} {code : Int} {tmps : Array Value} (h2 : tmps[2]?.getD undef = .pointer (some ⟨b, 0, none⟩)) (h3 : tmps[3]?.getD undef = .int .i64 code) (he : IsEv w' b e A c)
    (hR : R (.returned (.tuple #[.agg (evCells e A c), .int .i64 code])) w') : bodyPost Tryd.prog Tryd.f9 R .ret { tmps := tmps, defers := [] } w' := by
  obtain ⟨c0, c1, c2, c3, c4, c5, _⟩ := ev_cells he
  refine bodyPost_ret (v := .tuple #[.agg (evCells e A c), .int .i64 code]) ?_ rfl hR
  simp [results, Tryd.results9, go_sem, h2, h3, c0, c1, c2, c3, c4, c5, evCells]

attribute [local go_sem] min2_int min_two

set_option maxHeartbeats 8000000 in
set_option maxRecDepth 100000 in
theorem read_A2 (s : ByteArray) (l : List ByteArray) (x0 : ByteArray) (hx0 : x0 = l.getD 0 ByteArray.empty) (hds : dat l = splA [] s.data.toList) (hs : s.size ≤ 2147483648) (hx : x0 ≠ (⟨#[101, 110, 100]⟩ : ByteArray)) (h1 : 2 ≤ l.length) (w : World) (hE : Env w)
    (hsp : ∀ W, Env W → Calls Tryd.prog 24 #[.string s, .string ⟨#[32]⟩] W fun e w' => ∃ g, e = .returned (.slice (some ⟨g, 0, none⟩) l.length l.length) ∧ W.heap.size ≤ g ∧ g < w'.heap.size ∧ Kd.C Kd.string w' (some ⟨g, 0, none⟩) l.length l ∧ Below W.heap.size W w') :
    Calls Tryd.prog 9 #[.string s] w (RdOf (restC s.data.toList (dat l) 0) w) := by
  have hdr : Rng 0 := rng0
  have hB0 := (Below.refl w.heap.size w).alloc (Nat.le_refl _) (.cells (evCells evZ none 0) 24)
  have HE0 := Aside0.mk (alloc_ev (w := w) rfl evZ none 0)
  have HS := Lib.hid (hsp _ (hE.step hB0))
  have HB0 := Aside0.mk hB0
  have HE := Aside0.mk hE
  have hv : (x0.toList == (⟨#[101, 110, 100]⟩ : ByteArray).toList) = false := by rw [beq_eq_false_iff_ne]; exact fun h => hx (by rw [← ofL_data x0, ← toList_data, h, toList_data, ofL_data])
  have hu : (x0.toList == [101, 110, 100]) = false := by rw [beq_eq_false_iff_ne]; exact fun h => hx (by rw [← ofL_data x0, ← toList_data, h]; rfl)
  have i1 : (0 : Int) < (l.length : Int) := by omega
  have i2 : ((l.length : Int) < 1) = False := eq_false (by omega)
  have i3 : decide ((l.length : Int) < 1) = false := decide_eq_false (by omega)
  have i4 : (1 : Int) ≤ (l.length : Int) := by omega
  have i5 : ¬ l.length = 1 := by omega
  have HX := Aside0.mk hx0
  have hnum := splA_num s.data.toList []
  rw [← hds, data_length] at hnum
  have HN := Aside0.mk (show l.length ≤ 2147483649 by simp [dat] at hnum; omega)
  have HZ := Aside0.mk (show ∀ x ∈ l, x.size ≤ 4294967296 from fun x hx => by
    have h := splA_len s.data.toList [] x.data.toList (by rw [← hds]; exact List.mem_map.2 ⟨x, hx, rfl⟩)
    rw [data_length, data_length] at h
    simp at h
    omega)
  clear hnum
  clear hsp hB0 hE hx hx0 hds
  go_enter Tryd.func9, Tryd.ntmps9
  go_upto_region 4 with (go_at_call 24; refine HS.out.mono ?_; rintro x w1 ⟨g, rfl, hg, hgl, hC, hb1⟩)
  have hB1 := HB0.out.trans (hb1.mono HB0.out.size)
  obtain ⟨ad, e, hc0⟩ := Kd.at_string hC 0 (by omega) i1
  cases e
  replace hc0 : w1.cell? ⟨g, 0, none⟩ = some (.string x0) := hc0.trans (by rw [HX.out]; rfl)
  have HB1 := Aside0.mk hB1
  have HV1 := Aside0.mk (HE.out.step hB1)
  have HR1 := Aside0.mk (ev_below HE0.out hb1)
  have HC1 := Aside0.mk hC
  clear hB1 hb1 hC hg HB0 HE0
  have HCT := Aside0.mk (show Kd.C Kd.string w1 (some ⟨g, 1, none⟩) (l.length - 1) (l.drop 1) from (by have h := Kd.C_drop (m := 1) (c := l.length) HC1.out (by omega) (Nat.le_refl _); rw [if_neg i5] at h; rw [List.length_drop] at h; exact h))
  have HCW := Aside0.mk (show Kd.C Kd.string w1 (some ⟨g, 0, none⟩) l.length l from HC1.out)
  have hrd : Calls Tryd.prog 26 #[.slice (some ⟨g, 1, none⟩) (l.length - 1) (l.length - 1)] w1 (ReadsPost (canons (dat (l.drop 1))) w1) := by
    have hq : (l.drop 1).length = (l.length - 1) := by simp
    have h := reads_any (some ⟨g, 1, none⟩) (l.length - 1) (l.drop 1) w1 HV1.out (by rw [hq]; exact HCT.out) (by rw [hq]; omega) (by rw [hq]; have := HN.out; omega) (fun x hx => HZ.out x (by first | exact hx | exact List.mem_of_mem_drop hx | exact List.mem_of_mem_take (List.mem_of_mem_drop hx)))
    rw [hq] at h
    exact h
  have hdt : (dat l).tail = dat (l.drop 1) := by simp [dat]
  have hrc : ∀ o, canons (dat (l.drop 1)) = o → restC s.data.toList (dat l) 0 = (match o with
    | none => (evZ, 90)
    | some n => if okP (evOf (dat l) n 0) ∧ evT (evOf (dat l) n 0) = s.data.toList then (evOf (dat l) n 0, 0) else (evZ, 90)) := by
    intro o h
    unfold restC
    rw [hdt, h]
  cases hcan : canons (dat (l.drop 1)) with
  | none =>
    rw [hcan] at hrd
    have HRD := Lib.hid (show Calls Tryd.prog 26 #[.slice (some ⟨g, 1, none⟩) (l.length - 1) (l.length - 1)] w1 (fun e w' => e = .returned (.tuple #[.slice none 0 0, .bool false]) ∧ Below w1.heap.size w1 w') from hrd.mono fun e w' h => by
      rcases h with ⟨n, v, h, _⟩ | ⟨_, h, hb⟩
      · cases h
      · exact ⟨h, hb⟩)
    have HRS := Aside0.mk (show restC s.data.toList (dat l) 0 = (evZ, 90) from hrc none hcan)
    clear hrd hcan hrc hdt
    go_wp2_with (go_at_call 26; refine HRD.out.mono ?_; rintro e w2 ⟨rfl, hb2⟩; refine Hid.out ?_)
    refine Lib.hid ?_
    have HR2 := Aside0.mk (ev_below HR1.out hb2)
    have HB2 := Aside0.mk (HB1.out.trans (hb2.mono HB1.out.size))
    obtain ⟨r0, r1, r2, r3, r4, r5, rf⟩ := ev_cells HR2.out
    clear hc0 hb2
    go_wp2
    refine rd_close (b := w.heap.size) (e := evZ) (A := none) (c := 0) (code := 90) rfl rfl (put6_ev HR2.out evZ none 0) ?_
    rw [HRS.out]
    exact ⟨none, 0, rfl, Nat.le_refl _, Kd.C_nil _ _, put6_below HB2.out (Nat.le_refl _) evZ none 0⟩
  | some n =>
    rw [hcan] at hrd
    have hnr := canons_rng _ _ hcan
    have hnl : n.length ≤ 4294967296 := by
      have h1 := congrArg List.length hnr.2
      have hq : (l.drop 1).length = (l.length - 1) := by simp
      have h2 : (dat (l.drop 1)).length = (l.length - 1) := by rw [← hq]; simp [dat]
      rw [List.length_map, h2] at h1
      have := HN.out
      omega
    have HRD := Lib.hid (show Calls Tryd.prog 26 #[.slice (some ⟨g, 1, none⟩) (l.length - 1) (l.length - 1)] w1 (fun e w' => ∃ A3 c3, e = .returned (.tuple #[.slice A3 n.length c3, .bool true]) ∧ n.length ≤ c3 ∧ Kd.C (Kd.int .i64) w' A3 n.length n ∧ (∀ ad, A3 = some ad → 0 < n.length → w1.heap.size ≤ ad.block) ∧ Below w1.heap.size w1 w') from hrd.mono fun e w' h => by
      rcases h with ⟨n', v, h, he, hR, hb⟩ | ⟨h, _⟩
      · injection h with h
        subst h
        obtain ⟨A3, c3, rfl⟩ := Kd.R_slice hR
        refine ⟨A3, c3, he, (Kd.R_reads' hR).2.1, (Kd.R_reads' hR).2.2, fun ad had hpos => ?_, hb⟩
        obtain ⟨g3, cap3, h3, hg3, _⟩ := Kd.R_form hR hpos
        injection h3 with h3 _ _
        rw [had] at h3
        injection h3 with h3
        rw [h3]
        exact hg3
      · cases h)
    have HNR := Aside0.mk hnr.1
    have hrs := hrc (some n) hcan
    dsimp only at hrs
    clear hrd hcan hnr hrc hdt
    go_wp2_with (go_at_call 26; refine HRD.out.mono ?_; rintro e w2 ⟨A3, c3, rfl, hc3, hC3, hA3, hb2⟩; refine Hid.out ?_)
    refine Lib.hid ?_
    have HEO := Lib.hid (show Calls Tryd.prog 27 #[.slice (some ⟨g, 0, none⟩) l.length l.length, .slice A3 n.length c3, .int .i64 0] w2 (fun x w' => EvOf A3 (evOf (dat l) n 0) w2 x w') from by
      have hq : l.length = l.length := by simp
      have h := event_of (some ⟨g, 0, none⟩) l.length l A3 c3 n 0 w2 (by rw [hq]; exact Kd.C_below HCW.out hb2) hC3 hc3
      rw [hq] at h
      exact h)
    have hrg : EvR (evOf (dat l) n 0) := evOf_rng _ _ _ HNR.out hdr
    have hlt1 := blk_lt HR1.out
    have hle := evOf_list (dat l) n 0
    have hll : (evOf (dat l) n 0).list.length ≤ 4294967296 := Nat.le_trans (evOf_list _ _ _) hnl
    generalize evOf (dat l) n 0 = ev at HEO hrg hll hrs hle
    have HA3 := Aside0.mk (show ∀ ad, A3 = some ad → 0 < ev.list.length → ad.block ≠ w.heap.size from fun ad h hp => by have := hA3 ad h (by omega); omega)
    clear hA3 hlt1 hle
    have HRS := Aside0.mk hrs
    clear hrs
    have HR2 := Aside0.mk (ev_below HR1.out hb2)
    have HB2 := Aside0.mk (HB1.out.trans (hb2.mono HB1.out.size))
    clear hc0 hb2 hC3 HR1 HB1
    go_wp2_with (go_at_call 27; refine HEO.out.mono ?_; rintro x w3 ⟨A4, c4, rfl, hlc, hC4, hA4, hb3⟩; refine Hid.out ?_)
    refine Lib.hid ?_
    have HR3 := Aside0.mk (ev_below (ev_below HR2.out hb3) ((Below.refl w3.heap.size w3).alloc (Nat.le_refl _) (.cells (evCells ev A4 c4) 24)))
    have hB3 := below_alloc (HB2.out.trans (hb3.mono HB2.out.size)) (.cells (evCells ev A4 c4) 24)
    have HE3 := Aside0.mk (alloc_ev (w := w3) rfl ev A4 c4)
    have hC5 := Kd.C_alloc hC4 (.cells (evCells ev A4 c4) 24)
    have HEA := Lib.hid (event_any ev A4 c4 _ (HE.out.step hB3) hrg hC5 hlc hll)
    have HB3 := Aside0.mk hB3
    have HC5 := Aside0.mk hC5
    obtain ⟨c0, c1, c2', c3', c4', c5, cf⟩ := ev_cells HE3.out
    have HA4 := Aside0.mk (show ∀ ad, A4 = some ad → 0 < ev.list.length → ad.block ≠ w.heap.size from fun ad h hp => by obtain ⟨a, ha, hb⟩ := hA4 ad h hp; rw [hb]; exact HA3.out a ha hp)
    clear hb3 hB3 hC5 hC4 HR2 HB2 hA4
    simp only [evCells] at c0 c1 c2' c3' c4' c5 cf ⊢
    go_wp2_with (go_at_call 7; refine HEA.out.mono ?_; rintro x w4 ⟨rfl, hb4⟩; refine Hid.out ?_)
    refine Lib.hid ?_
    have HR4 := Aside0.mk (ev_below HR3.out hb4)
    have HE4 := Aside0.mk (ev_below HE3.out hb4)
    have HB4 := Aside0.mk (HB3.out.trans (hb4.mono HB3.out.size))
    have HC6 := Aside0.mk (Kd.C_below HC5.out hb4)
    have HLC := Aside0.mk hlc
    clear c0 c1 c2' c3' c4' c5 cf hb4 HR3 HE3 HB3 HC5 HEA HEO HRD hlc
    obtain ⟨r0, r1, r2, r3, r4, r5, rf⟩ := ev_cells HR4.out
    obtain ⟨c0, c1, c2', c3', c4', c5, cf⟩ := ev_cells HE4.out
    by_cases hok : okP ev
    · have hA : evA ev = (evT ev, 0) := if_pos hok
      rw [hA]
      by_cases heq : evT ev = s.data.toList
      · have hbe : ((ofL (evT ev)).toList == s.toList) = true := by rw [beq_iff_eq, toList_data, toList_data, data_ofL]; exact heq
        have hres : (if okP ev ∧ evT ev = s.data.toList then (ev, (0 : Int)) else (evZ, 90)) = (ev, 0) := if_pos ⟨hok, heq⟩
        have HRT := Aside0.mk (HRS.out.trans hres)
        clear hok hA heq hres
        go_wp2
        refine rd_close (b := w.heap.size) (e := ev) (A := A4) (c := c4) (code := 0) rfl rfl (put6_ev HR4.out ev A4 c4) ?_
        rw [HRT.out]
        have hBf := put6_below HB4.out (Nat.le_refl _) ev A4 c4
        exact ⟨A4, c4, rfl, HLC.out, Kd.C_keep (d := (0 : Int)) (g := w.heap.size) HC6.out (put6_keep w4 w.heap.size ev A4 c4) HA4.out, hBf⟩
      · have hbe : ((ofL (evT ev)).toList == s.toList) = false := by rw [beq_eq_false_iff_ne, toList_data, toList_data, data_ofL]; exact heq
        have hres : (if okP ev ∧ evT ev = s.data.toList then (ev, (0 : Int)) else (evZ, 90)) = (evZ, 90) := if_neg (fun h => heq h.2)
        have HRT := Aside0.mk (HRS.out.trans hres)
        clear hok hA heq hres
        go_wp2
        refine rd_close (b := w.heap.size) (e := evZ) (A := none) (c := 0) (code := 90) rfl rfl (put6_ev HR4.out evZ none 0) ?_
        rw [HRT.out]
        exact ⟨none, 0, rfl, Nat.le_refl _, Kd.C_nil _ _, put6_below HB4.out (Nat.le_refl _) evZ none 0⟩
    · have hA : evA ev = ([], 90) := if_neg hok
      rw [hA]
      have hres : (if okP ev ∧ evT ev = s.data.toList then (ev, (0 : Int)) else (evZ, 90)) = (evZ, 90) := if_neg (fun h => hok h.1)
      have HRT := Aside0.mk (HRS.out.trans hres)
      clear hok hA hres
      go_wp2
      refine rd_close (b := w.heap.size) (e := evZ) (A := none) (c := 0) (code := 90) rfl rfl (put6_ev HR4.out evZ none 0) ?_
      rw [HRT.out]
      exact ⟨none, 0, rfl, Nat.le_refl _, Kd.C_nil _ _, put6_below HB4.out (Nat.le_refl _) evZ none 0⟩

set_option maxHeartbeats 8000000 in
set_option maxRecDepth 100000 in
theorem read_A1 (s : ByteArray) (l : List ByteArray) (x0 : ByteArray) (hx0 : x0 = l.getD 0 ByteArray.empty) (hds : dat l = splA [] s.data.toList) (hs : s.size ≤ 2147483648) (hx : x0 ≠ (⟨#[101, 110, 100]⟩ : ByteArray)) (h1 : l.length = 1) (w : World) (hE : Env w)
    (hsp : ∀ W, Env W → Calls Tryd.prog 24 #[.string s, .string ⟨#[32]⟩] W fun e w' => ∃ g, e = .returned (.slice (some ⟨g, 0, none⟩) 1 1) ∧ W.heap.size ≤ g ∧ g < w'.heap.size ∧ Kd.C Kd.string w' (some ⟨g, 0, none⟩) 1 l ∧ Below W.heap.size W w') :
    Calls Tryd.prog 9 #[.string s] w (RdOf (restC s.data.toList (dat l) 0) w) := by
  have hdr : Rng 0 := rng0
  have hB0 := (Below.refl w.heap.size w).alloc (Nat.le_refl _) (.cells (evCells evZ none 0) 24)
  have HE0 := Aside0.mk (alloc_ev (w := w) rfl evZ none 0)
  have HS := Lib.hid (hsp _ (hE.step hB0))
  have HB0 := Aside0.mk hB0
  have HE := Aside0.mk hE
  have hv : (x0.toList == (⟨#[101, 110, 100]⟩ : ByteArray).toList) = false := by rw [beq_eq_false_iff_ne]; exact fun h => hx (by rw [← ofL_data x0, ← toList_data, h, toList_data, ofL_data])
  have hu : (x0.toList == [101, 110, 100]) = false := by rw [beq_eq_false_iff_ne]; exact fun h => hx (by rw [← ofL_data x0, ← toList_data, h]; rfl)
  have i1 : (0 : Int) < ((1 : Nat) : Int) := by omega
  have hl1 : l = [x0] := by
    rw [hx0]
    match l, h1 with
    | [y], _ => rfl
  have HX := Aside0.mk hx0
  have hnum := splA_num s.data.toList []
  rw [← hds, data_length] at hnum
  have HN := Aside0.mk (show l.length ≤ 2147483649 by simp [dat] at hnum; omega)
  have HZ := Aside0.mk (show ∀ x ∈ l, x.size ≤ 4294967296 from fun x hx => by
    have h := splA_len s.data.toList [] x.data.toList (by rw [← hds]; exact List.mem_map.2 ⟨x, hx, rfl⟩)
    rw [data_length, data_length] at h
    simp at h
    omega)
  clear hnum
  clear hsp hB0 hE hx hx0 hds
  go_enter Tryd.func9, Tryd.ntmps9
  go_upto_region 4 with (go_at_call 24; refine HS.out.mono ?_; rintro x w1 ⟨g, rfl, hg, hgl, hC, hb1⟩)
  have hB1 := HB0.out.trans (hb1.mono HB0.out.size)
  obtain ⟨ad, e, hc0⟩ := Kd.at_string hC 0 (by omega) i1
  cases e
  replace hc0 : w1.cell? ⟨g, 0, none⟩ = some (.string x0) := hc0.trans (by rw [HX.out]; rfl)
  have HL1 := Aside0.mk hl1
  clear hl1 h1
  have HB1 := Aside0.mk hB1
  have HV1 := Aside0.mk (HE.out.step hB1)
  have HR1 := Aside0.mk (ev_below HE0.out hb1)
  have HC1 := Aside0.mk hC
  clear hB1 hb1 hC hg HB0 HE0
  have HCT := Aside0.mk (show Kd.C Kd.string w1 (some ⟨g, 0, none⟩) 0 (l.drop 1) from (by have h := Kd.C_drop (m := 1) (c := 1) (k := Kd.string) (xs := l) (by rw [HL1.out]; rw [HL1.out] at HC1; exact HC1.out) (by rw [HL1.out]; simp) (by rw [HL1.out]; simp); rw [if_pos rfl] at h; rw [HL1.out] at h ⊢; exact h))
  have HCW := Aside0.mk (show Kd.C Kd.string w1 (some ⟨g, 0, none⟩) 1 l from HC1.out)
  have hrd : Calls Tryd.prog 26 #[.slice (some ⟨g, 0, none⟩) 0 0] w1 (ReadsPost (canons (dat (l.drop 1))) w1) := by
    have hq : (l.drop 1).length = 0 := by rw [HL1.out]; rfl
    have h := reads_any (some ⟨g, 0, none⟩) 0 (l.drop 1) w1 HV1.out (by rw [hq]; exact HCT.out) (by rw [hq]; omega) (by rw [hq]; omega) (fun x hx => HZ.out x (by first | exact hx | exact List.mem_of_mem_drop hx | exact List.mem_of_mem_take (List.mem_of_mem_drop hx)))
    rw [hq] at h
    exact h
  have hdt : (dat l).tail = dat (l.drop 1) := by simp [dat]
  have hrc : ∀ o, canons (dat (l.drop 1)) = o → restC s.data.toList (dat l) 0 = (match o with
    | none => (evZ, 90)
    | some n => if okP (evOf (dat l) n 0) ∧ evT (evOf (dat l) n 0) = s.data.toList then (evOf (dat l) n 0, 0) else (evZ, 90)) := by
    intro o h
    unfold restC
    rw [hdt, h]
  cases hcan : canons (dat (l.drop 1)) with
  | none =>
    rw [hcan] at hrd
    have HRD := Lib.hid (show Calls Tryd.prog 26 #[.slice (some ⟨g, 0, none⟩) 0 0] w1 (fun e w' => e = .returned (.tuple #[.slice none 0 0, .bool false]) ∧ Below w1.heap.size w1 w') from hrd.mono fun e w' h => by
      rcases h with ⟨n, v, h, _⟩ | ⟨_, h, hb⟩
      · cases h
      · exact ⟨h, hb⟩)
    have HRS := Aside0.mk (show restC s.data.toList (dat l) 0 = (evZ, 90) from hrc none hcan)
    clear hrd hcan hrc hdt
    go_wp2_with (go_at_call 26; refine HRD.out.mono ?_; rintro e w2 ⟨rfl, hb2⟩; refine Hid.out ?_)
    refine Lib.hid ?_
    have HR2 := Aside0.mk (ev_below HR1.out hb2)
    have HB2 := Aside0.mk (HB1.out.trans (hb2.mono HB1.out.size))
    obtain ⟨r0, r1, r2, r3, r4, r5, rf⟩ := ev_cells HR2.out
    clear hc0 hb2
    go_wp2
    refine rd_close (b := w.heap.size) (e := evZ) (A := none) (c := 0) (code := 90) rfl rfl (put6_ev HR2.out evZ none 0) ?_
    rw [HRS.out]
    exact ⟨none, 0, rfl, Nat.le_refl _, Kd.C_nil _ _, put6_below HB2.out (Nat.le_refl _) evZ none 0⟩
  | some n =>
    rw [hcan] at hrd
    have hnr := canons_rng _ _ hcan
    have hnl : n.length ≤ 4294967296 := by
      have h1 := congrArg List.length hnr.2
      have hq : (l.drop 1).length = 0 := by rw [HL1.out]; rfl
      have h2 : (dat (l.drop 1)).length = 0 := by rw [← hq]; simp [dat]
      rw [List.length_map, h2] at h1
      have := HN.out
      omega
    have HRD := Lib.hid (show Calls Tryd.prog 26 #[.slice (some ⟨g, 0, none⟩) 0 0] w1 (fun e w' => ∃ A3 c3, e = .returned (.tuple #[.slice A3 n.length c3, .bool true]) ∧ n.length ≤ c3 ∧ Kd.C (Kd.int .i64) w' A3 n.length n ∧ (∀ ad, A3 = some ad → 0 < n.length → w1.heap.size ≤ ad.block) ∧ Below w1.heap.size w1 w') from hrd.mono fun e w' h => by
      rcases h with ⟨n', v, h, he, hR, hb⟩ | ⟨h, _⟩
      · injection h with h
        subst h
        obtain ⟨A3, c3, rfl⟩ := Kd.R_slice hR
        refine ⟨A3, c3, he, (Kd.R_reads' hR).2.1, (Kd.R_reads' hR).2.2, fun ad had hpos => ?_, hb⟩
        obtain ⟨g3, cap3, h3, hg3, _⟩ := Kd.R_form hR hpos
        injection h3 with h3 _ _
        rw [had] at h3
        injection h3 with h3
        rw [h3]
        exact hg3
      · cases h)
    have HNR := Aside0.mk hnr.1
    have hrs := hrc (some n) hcan
    dsimp only at hrs
    clear hrd hcan hnr hrc hdt
    go_wp2_with (go_at_call 26; refine HRD.out.mono ?_; rintro e w2 ⟨A3, c3, rfl, hc3, hC3, hA3, hb2⟩; refine Hid.out ?_)
    refine Lib.hid ?_
    have HEO := Lib.hid (show Calls Tryd.prog 27 #[.slice (some ⟨g, 0, none⟩) 1 1, .slice A3 n.length c3, .int .i64 0] w2 (fun x w' => EvOf A3 (evOf (dat l) n 0) w2 x w') from by
      have hq : l.length = 1 := by rw [HL1.out]; rfl
      have h := event_of (some ⟨g, 0, none⟩) 1 l A3 c3 n 0 w2 (by rw [hq]; exact Kd.C_below HCW.out hb2) hC3 hc3
      rw [hq] at h
      exact h)
    have hrg : EvR (evOf (dat l) n 0) := evOf_rng _ _ _ HNR.out hdr
    have hlt1 := blk_lt HR1.out
    have hle := evOf_list (dat l) n 0
    have hll : (evOf (dat l) n 0).list.length ≤ 4294967296 := Nat.le_trans (evOf_list _ _ _) hnl
    generalize evOf (dat l) n 0 = ev at HEO hrg hll hrs hle
    have HA3 := Aside0.mk (show ∀ ad, A3 = some ad → 0 < ev.list.length → ad.block ≠ w.heap.size from fun ad h hp => by have := hA3 ad h (by omega); omega)
    clear hA3 hlt1 hle
    have HRS := Aside0.mk hrs
    clear hrs
    have HR2 := Aside0.mk (ev_below HR1.out hb2)
    have HB2 := Aside0.mk (HB1.out.trans (hb2.mono HB1.out.size))
    clear hc0 hb2 hC3 HR1 HB1
    go_wp2_with (go_at_call 27; refine HEO.out.mono ?_; rintro x w3 ⟨A4, c4, rfl, hlc, hC4, hA4, hb3⟩; refine Hid.out ?_)
    refine Lib.hid ?_
    have HR3 := Aside0.mk (ev_below (ev_below HR2.out hb3) ((Below.refl w3.heap.size w3).alloc (Nat.le_refl _) (.cells (evCells ev A4 c4) 24)))
    have hB3 := below_alloc (HB2.out.trans (hb3.mono HB2.out.size)) (.cells (evCells ev A4 c4) 24)
    have HE3 := Aside0.mk (alloc_ev (w := w3) rfl ev A4 c4)
    have hC5 := Kd.C_alloc hC4 (.cells (evCells ev A4 c4) 24)
    have HEA := Lib.hid (event_any ev A4 c4 _ (HE.out.step hB3) hrg hC5 hlc hll)
    have HB3 := Aside0.mk hB3
    have HC5 := Aside0.mk hC5
    obtain ⟨c0, c1, c2', c3', c4', c5, cf⟩ := ev_cells HE3.out
    have HA4 := Aside0.mk (show ∀ ad, A4 = some ad → 0 < ev.list.length → ad.block ≠ w.heap.size from fun ad h hp => by obtain ⟨a, ha, hb⟩ := hA4 ad h hp; rw [hb]; exact HA3.out a ha hp)
    clear hb3 hB3 hC5 hC4 HR2 HB2 hA4
    simp only [evCells] at c0 c1 c2' c3' c4' c5 cf ⊢
    go_wp2_with (go_at_call 7; refine HEA.out.mono ?_; rintro x w4 ⟨rfl, hb4⟩; refine Hid.out ?_)
    refine Lib.hid ?_
    have HR4 := Aside0.mk (ev_below HR3.out hb4)
    have HE4 := Aside0.mk (ev_below HE3.out hb4)
    have HB4 := Aside0.mk (HB3.out.trans (hb4.mono HB3.out.size))
    have HC6 := Aside0.mk (Kd.C_below HC5.out hb4)
    have HLC := Aside0.mk hlc
    clear c0 c1 c2' c3' c4' c5 cf hb4 HR3 HE3 HB3 HC5 HEA HEO HRD hlc
    obtain ⟨r0, r1, r2, r3, r4, r5, rf⟩ := ev_cells HR4.out
    obtain ⟨c0, c1, c2', c3', c4', c5, cf⟩ := ev_cells HE4.out
    by_cases hok : okP ev
    · have hA : evA ev = (evT ev, 0) := if_pos hok
      rw [hA]
      by_cases heq : evT ev = s.data.toList
      · have hbe : ((ofL (evT ev)).toList == s.toList) = true := by rw [beq_iff_eq, toList_data, toList_data, data_ofL]; exact heq
        have hres : (if okP ev ∧ evT ev = s.data.toList then (ev, (0 : Int)) else (evZ, 90)) = (ev, 0) := if_pos ⟨hok, heq⟩
        have HRT := Aside0.mk (HRS.out.trans hres)
        clear hok hA heq hres
        go_wp2
        refine rd_close (b := w.heap.size) (e := ev) (A := A4) (c := c4) (code := 0) rfl rfl (put6_ev HR4.out ev A4 c4) ?_
        rw [HRT.out]
        have hBf := put6_below HB4.out (Nat.le_refl _) ev A4 c4
        exact ⟨A4, c4, rfl, HLC.out, Kd.C_keep (d := (0 : Int)) (g := w.heap.size) HC6.out (put6_keep w4 w.heap.size ev A4 c4) HA4.out, hBf⟩
      · have hbe : ((ofL (evT ev)).toList == s.toList) = false := by rw [beq_eq_false_iff_ne, toList_data, toList_data, data_ofL]; exact heq
        have hres : (if okP ev ∧ evT ev = s.data.toList then (ev, (0 : Int)) else (evZ, 90)) = (evZ, 90) := if_neg (fun h => heq h.2)
        have HRT := Aside0.mk (HRS.out.trans hres)
        clear hok hA heq hres
        go_wp2
        refine rd_close (b := w.heap.size) (e := evZ) (A := none) (c := 0) (code := 90) rfl rfl (put6_ev HR4.out evZ none 0) ?_
        rw [HRT.out]
        exact ⟨none, 0, rfl, Nat.le_refl _, Kd.C_nil _ _, put6_below HB4.out (Nat.le_refl _) evZ none 0⟩
    · have hA : evA ev = ([], 90) := if_neg hok
      rw [hA]
      have hres : (if okP ev ∧ evT ev = s.data.toList then (ev, (0 : Int)) else (evZ, 90)) = (evZ, 90) := if_neg (fun h => hok h.1)
      have HRT := Aside0.mk (HRS.out.trans hres)
      clear hok hA hres
      go_wp2
      refine rd_close (b := w.heap.size) (e := evZ) (A := none) (c := 0) (code := 90) rfl rfl (put6_ev HR4.out evZ none 0) ?_
      rw [HRT.out]
      exact ⟨none, 0, rfl, Nat.le_refl _, Kd.C_nil _ _, put6_below HB4.out (Nat.le_refl _) evZ none 0⟩

set_option maxHeartbeats 8000000 in
set_option maxRecDepth 100000 in
theorem read_B1 (s : ByteArray) (l : List ByteArray) (x0 : ByteArray) (hx0 : x0 = l.getD 0 ByteArray.empty) (hds : dat l = splA [] s.data.toList) (hs : s.size ≤ 2147483648) (dd : Int) (hdd : dd = stateN (⟨#[101, 110, 100]⟩ : ByteArray).data.toList) (hx : x0 = (⟨#[101, 110, 100]⟩ : ByteArray)) (h1 : l.length = 1) (w : World) (hE : Env w)
    (hsp : ∀ W, Env W → Calls Tryd.prog 24 #[.string s, .string ⟨#[32]⟩] W fun e w' => ∃ g, e = .returned (.slice (some ⟨g, 0, none⟩) 1 1) ∧ W.heap.size ≤ g ∧ g < w'.heap.size ∧ Kd.C Kd.string w' (some ⟨g, 0, none⟩) 1 l ∧ Below W.heap.size W w') :
    Calls Tryd.prog 9 #[.string s] w (RdOf (restC s.data.toList (dat ([] : List ByteArray)) dd) w) := by
  have hdr : Rng dd := by rw [hdd]; exact stateN_rng _
  have hB0 := (Below.refl w.heap.size w).alloc (Nat.le_refl _) (.cells (evCells evZ none 0) 24)
  have HE0 := Aside0.mk (alloc_ev (w := w) rfl evZ none 0)
  have HS := Lib.hid (hsp _ (hE.step hB0))
  have HB0 := Aside0.mk hB0
  have HE := Aside0.mk hE
  subst hx
  have i1 : (0 : Int) < ((1 : Nat) : Int) := by omega
  have hw0 : wrap64 (((1 : Nat) : Int) - 1) = 0 := by unfold wrap64; omega
  have hw2 : wrap64 (1 - 1) = 0 := by unfold wrap64; omega
  have HST := Lib.hid (fun W => stateOf_any (⟨#[101, 110, 100]⟩ : ByteArray) W)
  rw [← hdd] at HST
  have HX := Aside0.mk hx0
  have hnum := splA_num s.data.toList []
  rw [← hds, data_length] at hnum
  have HN := Aside0.mk (show l.length ≤ 2147483649 by simp [dat] at hnum; omega)
  have HZ := Aside0.mk (show ∀ x ∈ l, x.size ≤ 4294967296 from fun x hx => by
    have h := splA_len s.data.toList [] x.data.toList (by rw [← hds]; exact List.mem_map.2 ⟨x, hx, rfl⟩)
    rw [data_length, data_length] at h
    simp at h
    omega)
  clear hnum
  clear hsp hB0 hE  hx0 hds
  go_enter Tryd.func9, Tryd.ntmps9
  go_upto_region 4 with (go_at_call 24; refine HS.out.mono ?_; rintro x w0 ⟨g, rfl, hg, hgl, hC, hb1⟩)
  have hB1 := HB0.out.trans (hb1.mono HB0.out.size)
  obtain ⟨ad, e, hc0⟩ := Kd.at_string hC 0 (by omega) i1
  cases e
  replace hc0 : w0.cell? ⟨g, 0, none⟩ = some (.string (⟨#[101, 110, 100]⟩ : ByteArray)) := hc0.trans (by rw [HX.out]; rfl)
  clear hdd h1
  have HB1 := Aside0.mk hB1
  have HV1 := Aside0.mk (HE.out.step hB1)
  have HR1 := Aside0.mk (ev_below HE0.out hb1)
  have HC1 := Aside0.mk hC
  clear hB1 hb1 hC hg HB0 HE0
  go_wp2_with (go_at_call 25; refine (HST.out _).mono ?_; rintro e w1 ⟨rfl, hD⟩; refine Hid.out ?_)
  refine Lib.hid ?_
  have hbD := drawn_below hD
  replace HC1 := Aside0.mk (Kd.C_below HC1.out hbD)
  replace HR1 := Aside0.mk (ev_below HR1.out hbD)
  replace HB1 := Aside0.mk (HB1.out.trans (hbD.mono HB1.out.size))
  replace HV1 := Aside0.mk (HE.out.step HB1.out)
  clear hbD hD
  have HCT := Aside0.mk (show Kd.C Kd.string w1 (some ⟨g, 0, none⟩) 0 ([] : List ByteArray) from ⟨rfl, by simp, fun h => absurd h (Nat.lt_irrefl 0)⟩)
  have HCW := Aside0.mk (show Kd.C Kd.string w1 (some ⟨g, 0, none⟩) 0 ([] : List ByteArray) from ⟨rfl, by simp, fun h => absurd h (Nat.lt_irrefl 0)⟩)
  have hrd : Calls Tryd.prog 26 #[.slice (some ⟨g, 0, none⟩) 0 1] w1 (ReadsPost (canons (dat ([] : List ByteArray))) w1) := by
    have hq : ([] : List ByteArray).length = 0 := by simp
    have h := reads_any (some ⟨g, 0, none⟩) 1 ([] : List ByteArray) w1 HV1.out (by rw [hq]; exact HCT.out) (by rw [hq]; omega) (by rw [hq]; omega) (fun x hx => by cases hx)
    rw [hq] at h
    exact h
  have hdt : (dat ([] : List ByteArray)).tail = dat ([] : List ByteArray) := by simp [dat]
  have hrc : ∀ o, canons (dat ([] : List ByteArray)) = o → restC s.data.toList (dat ([] : List ByteArray)) dd = (match o with
    | none => (evZ, 90)
    | some n => if okP (evOf (dat ([] : List ByteArray)) n dd) ∧ evT (evOf (dat ([] : List ByteArray)) n dd) = s.data.toList then (evOf (dat ([] : List ByteArray)) n dd, 0) else (evZ, 90)) := by
    intro o h
    unfold restC
    rw [hdt, h]
  cases hcan : canons (dat ([] : List ByteArray)) with
  | none =>
    rw [hcan] at hrd
    have HRD := Lib.hid (show Calls Tryd.prog 26 #[.slice (some ⟨g, 0, none⟩) 0 1] w1 (fun e w' => e = .returned (.tuple #[.slice none 0 0, .bool false]) ∧ Below w1.heap.size w1 w') from hrd.mono fun e w' h => by
      rcases h with ⟨n, v, h, _⟩ | ⟨_, h, hb⟩
      · cases h
      · exact ⟨h, hb⟩)
    have HRS := Aside0.mk (show restC s.data.toList (dat ([] : List ByteArray)) dd = (evZ, 90) from hrc none hcan)
    clear hrd hcan hrc hdt
    go_wp2_with (go_at_call 26; refine HRD.out.mono ?_; rintro e w2 ⟨rfl, hb2⟩; refine Hid.out ?_)
    refine Lib.hid ?_
    have HR2 := Aside0.mk (ev_below HR1.out hb2)
    have HB2 := Aside0.mk (HB1.out.trans (hb2.mono HB1.out.size))
    obtain ⟨r0, r1, r2, r3, r4, r5, rf⟩ := ev_cells HR2.out
    clear hc0 hb2
    go_wp2
    refine rd_close (b := w.heap.size) (e := evZ) (A := none) (c := 0) (code := 90) rfl rfl (put6_ev HR2.out evZ none 0) ?_
    rw [HRS.out]
    exact ⟨none, 0, rfl, Nat.le_refl _, Kd.C_nil _ _, put6_below HB2.out (Nat.le_refl _) evZ none 0⟩
  | some n =>
    rw [hcan] at hrd
    have hnr := canons_rng _ _ hcan
    have hnl : n.length ≤ 4294967296 := by
      have h1 := congrArg List.length hnr.2
      have hq : ([] : List ByteArray).length = 0 := by simp
      have h2 : (dat ([] : List ByteArray)).length = 0 := by rw [← hq]; simp [dat]
      rw [List.length_map, h2] at h1
      have := HN.out
      omega
    have HRD := Lib.hid (show Calls Tryd.prog 26 #[.slice (some ⟨g, 0, none⟩) 0 1] w1 (fun e w' => ∃ A3 c3, e = .returned (.tuple #[.slice A3 n.length c3, .bool true]) ∧ n.length ≤ c3 ∧ Kd.C (Kd.int .i64) w' A3 n.length n ∧ (∀ ad, A3 = some ad → 0 < n.length → w1.heap.size ≤ ad.block) ∧ Below w1.heap.size w1 w') from hrd.mono fun e w' h => by
      rcases h with ⟨n', v, h, he, hR, hb⟩ | ⟨h, _⟩
      · injection h with h
        subst h
        obtain ⟨A3, c3, rfl⟩ := Kd.R_slice hR
        refine ⟨A3, c3, he, (Kd.R_reads' hR).2.1, (Kd.R_reads' hR).2.2, fun ad had hpos => ?_, hb⟩
        obtain ⟨g3, cap3, h3, hg3, _⟩ := Kd.R_form hR hpos
        injection h3 with h3 _ _
        rw [had] at h3
        injection h3 with h3
        rw [h3]
        exact hg3
      · cases h)
    have HNR := Aside0.mk hnr.1
    have hrs := hrc (some n) hcan
    dsimp only at hrs
    clear hrd hcan hnr hrc hdt
    go_wp2_with (go_at_call 26; refine HRD.out.mono ?_; rintro e w2 ⟨A3, c3, rfl, hc3, hC3, hA3, hb2⟩; refine Hid.out ?_)
    refine Lib.hid ?_
    have HEO := Lib.hid (show Calls Tryd.prog 27 #[.slice (some ⟨g, 0, none⟩) 0 1, .slice A3 n.length c3, .int .i64 dd] w2 (fun x w' => EvOf A3 (evOf (dat ([] : List ByteArray)) n dd) w2 x w') from by
      have hq : ([] : List ByteArray).length = 0 := by simp
      have h := event_of (some ⟨g, 0, none⟩) 1 ([] : List ByteArray) A3 c3 n dd w2 (by rw [hq]; exact Kd.C_below HCW.out hb2) hC3 hc3
      rw [hq] at h
      exact h)
    have hrg : EvR (evOf (dat ([] : List ByteArray)) n dd) := evOf_rng _ _ _ HNR.out hdr
    have hlt1 := blk_lt HR1.out
    have hle := evOf_list (dat ([] : List ByteArray)) n dd
    have hll : (evOf (dat ([] : List ByteArray)) n dd).list.length ≤ 4294967296 := Nat.le_trans (evOf_list _ _ _) hnl
    generalize evOf (dat ([] : List ByteArray)) n dd = ev at HEO hrg hll hrs hle
    have HA3 := Aside0.mk (show ∀ ad, A3 = some ad → 0 < ev.list.length → ad.block ≠ w.heap.size from fun ad h hp => by have := hA3 ad h (by omega); omega)
    clear hA3 hlt1 hle
    have HRS := Aside0.mk hrs
    clear hrs
    have HR2 := Aside0.mk (ev_below HR1.out hb2)
    have HB2 := Aside0.mk (HB1.out.trans (hb2.mono HB1.out.size))
    clear hc0 hb2 hC3 HR1 HB1
    go_wp2_with (go_at_call 27; refine HEO.out.mono ?_; rintro x w3 ⟨A4, c4, rfl, hlc, hC4, hA4, hb3⟩; refine Hid.out ?_)
    refine Lib.hid ?_
    have HR3 := Aside0.mk (ev_below (ev_below HR2.out hb3) ((Below.refl w3.heap.size w3).alloc (Nat.le_refl _) (.cells (evCells ev A4 c4) 24)))
    have hB3 := below_alloc (HB2.out.trans (hb3.mono HB2.out.size)) (.cells (evCells ev A4 c4) 24)
    have HE3 := Aside0.mk (alloc_ev (w := w3) rfl ev A4 c4)
    have hC5 := Kd.C_alloc hC4 (.cells (evCells ev A4 c4) 24)
    have HEA := Lib.hid (event_any ev A4 c4 _ (HE.out.step hB3) hrg hC5 hlc hll)
    have HB3 := Aside0.mk hB3
    have HC5 := Aside0.mk hC5
    obtain ⟨c0, c1, c2', c3', c4', c5, cf⟩ := ev_cells HE3.out
    have HA4 := Aside0.mk (show ∀ ad, A4 = some ad → 0 < ev.list.length → ad.block ≠ w.heap.size from fun ad h hp => by obtain ⟨a, ha, hb⟩ := hA4 ad h hp; rw [hb]; exact HA3.out a ha hp)
    clear hb3 hB3 hC5 hC4 HR2 HB2 hA4
    simp only [evCells] at c0 c1 c2' c3' c4' c5 cf ⊢
    go_wp2_with (go_at_call 7; refine HEA.out.mono ?_; rintro x w4 ⟨rfl, hb4⟩; refine Hid.out ?_)
    refine Lib.hid ?_
    have HR4 := Aside0.mk (ev_below HR3.out hb4)
    have HE4 := Aside0.mk (ev_below HE3.out hb4)
    have HB4 := Aside0.mk (HB3.out.trans (hb4.mono HB3.out.size))
    have HC6 := Aside0.mk (Kd.C_below HC5.out hb4)
    have HLC := Aside0.mk hlc
    clear c0 c1 c2' c3' c4' c5 cf hb4 HR3 HE3 HB3 HC5 HEA HEO HRD hlc
    obtain ⟨r0, r1, r2, r3, r4, r5, rf⟩ := ev_cells HR4.out
    obtain ⟨c0, c1, c2', c3', c4', c5, cf⟩ := ev_cells HE4.out
    by_cases hok : okP ev
    · have hA : evA ev = (evT ev, 0) := if_pos hok
      rw [hA]
      by_cases heq : evT ev = s.data.toList
      · have hbe : ((ofL (evT ev)).toList == s.toList) = true := by rw [beq_iff_eq, toList_data, toList_data, data_ofL]; exact heq
        have hres : (if okP ev ∧ evT ev = s.data.toList then (ev, (0 : Int)) else (evZ, 90)) = (ev, 0) := if_pos ⟨hok, heq⟩
        have HRT := Aside0.mk (HRS.out.trans hres)
        clear hok hA heq hres
        go_wp2
        refine rd_close (b := w.heap.size) (e := ev) (A := A4) (c := c4) (code := 0) rfl rfl (put6_ev HR4.out ev A4 c4) ?_
        rw [HRT.out]
        have hBf := put6_below HB4.out (Nat.le_refl _) ev A4 c4
        exact ⟨A4, c4, rfl, HLC.out, Kd.C_keep (d := (0 : Int)) (g := w.heap.size) HC6.out (put6_keep w4 w.heap.size ev A4 c4) HA4.out, hBf⟩
      · have hbe : ((ofL (evT ev)).toList == s.toList) = false := by rw [beq_eq_false_iff_ne, toList_data, toList_data, data_ofL]; exact heq
        have hres : (if okP ev ∧ evT ev = s.data.toList then (ev, (0 : Int)) else (evZ, 90)) = (evZ, 90) := if_neg (fun h => heq h.2)
        have HRT := Aside0.mk (HRS.out.trans hres)
        clear hok hA heq hres
        go_wp2
        refine rd_close (b := w.heap.size) (e := evZ) (A := none) (c := 0) (code := 90) rfl rfl (put6_ev HR4.out evZ none 0) ?_
        rw [HRT.out]
        exact ⟨none, 0, rfl, Nat.le_refl _, Kd.C_nil _ _, put6_below HB4.out (Nat.le_refl _) evZ none 0⟩
    · have hA : evA ev = ([], 90) := if_neg hok
      rw [hA]
      have hres : (if okP ev ∧ evT ev = s.data.toList then (ev, (0 : Int)) else (evZ, 90)) = (evZ, 90) := if_neg (fun h => hok h.1)
      have HRT := Aside0.mk (HRS.out.trans hres)
      clear hok hA hres
      go_wp2
      refine rd_close (b := w.heap.size) (e := evZ) (A := none) (c := 0) (code := 90) rfl rfl (put6_ev HR4.out evZ none 0) ?_
      rw [HRT.out]
      exact ⟨none, 0, rfl, Nat.le_refl _, Kd.C_nil _ _, put6_below HB4.out (Nat.le_refl _) evZ none 0⟩

set_option maxHeartbeats 8000000 in
set_option maxRecDepth 100000 in
theorem read_B2 (s : ByteArray) (l : List ByteArray) (x0 : ByteArray) (hx0 : x0 = l.getD 0 ByteArray.empty) (hds : dat l = splA [] s.data.toList) (hs : s.size ≤ 2147483648) (m : Nat) (hmb : m ≤ 2147483649) (hlm : l.length = m + 1) (xl : ByteArray) (hxl : xl = l.getD m ByteArray.empty) (dd : Int) (hdd : dd = stateN xl.data.toList) (hx : x0 = (⟨#[101, 110, 100]⟩ : ByteArray)) (h1 : 1 ≤ m) (w : World) (hE : Env w)
    (hsp : ∀ W, Env W → Calls Tryd.prog 24 #[.string s, .string ⟨#[32]⟩] W fun e w' => ∃ g, e = .returned (.slice (some ⟨g, 0, none⟩) (m + 1) (m + 1)) ∧ W.heap.size ≤ g ∧ g < w'.heap.size ∧ Kd.C Kd.string w' (some ⟨g, 0, none⟩) (m + 1) l ∧ Below W.heap.size W w') :
    Calls Tryd.prog 9 #[.string s] w (RdOf (restC s.data.toList (dat (l.take m)) dd) w) := by
  have hdr : Rng dd := by rw [hdd]; exact stateN_rng _
  have hB0 := (Below.refl w.heap.size w).alloc (Nat.le_refl _) (.cells (evCells evZ none 0) 24)
  have HE0 := Aside0.mk (alloc_ev (w := w) rfl evZ none 0)
  have HS := Lib.hid (hsp _ (hE.step hB0))
  have HB0 := Aside0.mk hB0
  have HE := Aside0.mk hE
  subst hx
  have i1 : (0 : Int) < ((m + 1 : Nat) : Int) := by omega
  have hw0 : wrap64 (((m + 1 : Nat) : Int) - 1) = (m : Int) := by unfold wrap64; omega
  have hw2 : wrap64 ((m : Int) + 1 - 1) = (m : Int) := by unfold wrap64; omega
  have hw3 : wrap64 (m : Int) = (m : Int) := by unfold wrap64; omega
  have j1 : (0 : Int) ≤ (m : Int) := by omega
  have j2 : (m : Int) < (m : Int) + 1 := by omega
  have j3 : (m : Int) ≤ (m : Int) + 1 := by omega
  have j4 : ((m : Int) < 1) = False := eq_false (by omega)
  have j5 : decide ((m : Int) < 1) = false := decide_eq_false (by omega)
  have j6 : (1 : Int) ≤ (m : Int) := by omega
  have j7 : ¬ m = 0 := by omega
  have j8 : ¬ m + 1 = 1 := by omega
  have HST := Lib.hid (fun W => stateOf_any xl W)
  rw [← hdd] at HST
  have HXL := Aside0.mk hxl
  have HLM := Aside0.mk hlm
  have HX := Aside0.mk hx0
  have hnum := splA_num s.data.toList []
  rw [← hds, data_length] at hnum
  have HN := Aside0.mk (show l.length ≤ 2147483649 by simp [dat] at hnum; omega)
  have HZ := Aside0.mk (show ∀ x ∈ l, x.size ≤ 4294967296 from fun x hx => by
    have h := splA_len s.data.toList [] x.data.toList (by rw [← hds]; exact List.mem_map.2 ⟨x, hx, rfl⟩)
    rw [data_length, data_length] at h
    simp at h
    omega)
  clear hnum
  clear hsp hB0 hE  hx0 hds
  go_enter Tryd.func9, Tryd.ntmps9
  go_upto_region 4 with (go_at_call 24; refine HS.out.mono ?_; rintro x w0 ⟨g, rfl, hg, hgl, hC, hb1⟩)
  have hB1 := HB0.out.trans (hb1.mono HB0.out.size)
  obtain ⟨ad, e, hc0⟩ := Kd.at_string hC 0 (by omega) i1
  cases e
  replace hc0 : w0.cell? ⟨g, 0, none⟩ = some (.string (⟨#[101, 110, 100]⟩ : ByteArray)) := hc0.trans (by rw [HX.out]; rfl)
  obtain ⟨_, e, hcl⟩ := Kd.at_string hC (m : Int) (by omega) (by omega)
  cases e
  rw [Int.toNat_natCast] at hcl
  replace hcl : w0.cell? ⟨g, m, none⟩ = some (.string xl) := by
    rw [add_plain] at hcl
    exact hcl.trans (by rw [HXL.out]; unfold rdOf; rw [Int.toNat_natCast])
  have HB1 := Aside0.mk hB1
  have HV1 := Aside0.mk (HE.out.step hB1)
  have HR1 := Aside0.mk (ev_below HE0.out hb1)
  have HC1 := Aside0.mk hC
  clear hB1 hb1 hC hg HB0 HE0 hlm hxl hdd
  go_wp2_with (go_at_call 25; refine (HST.out _).mono ?_; rintro e w1 ⟨rfl, hD⟩; refine Hid.out ?_)
  refine Lib.hid ?_
  have hbD := drawn_below hD
  replace HC1 := Aside0.mk (Kd.C_below HC1.out hbD)
  replace HR1 := Aside0.mk (ev_below HR1.out hbD)
  replace HB1 := Aside0.mk (HB1.out.trans (hbD.mono HB1.out.size))
  replace HV1 := Aside0.mk (HE.out.step HB1.out)
  clear hbD hD hcl
  have HCT := Aside0.mk (show Kd.C Kd.string w1 (some ⟨g, 1, none⟩) (m - 1) ((l.take m).drop 1) from (by have h0 := Kd.C_take (m := m) (by rw [HLM.out]; exact HC1.out) (by rw [HLM.out]; omega); have h := Kd.C_drop (m := 1) (c := m + 1) h0 (by rw [List.length_take, HLM.out]; omega) (by rw [List.length_take, HLM.out]; omega); rw [if_neg j8, List.length_drop, List.length_take, HLM.out, Nat.min_eq_left (by omega)] at h; exact h))
  have HCW := Aside0.mk (show Kd.C Kd.string w1 (some ⟨g, 0, none⟩) m (l.take m) from (by have h0 := Kd.C_take (m := m) (by rw [HLM.out]; exact HC1.out) (by rw [HLM.out]; omega); rw [List.length_take, HLM.out, Nat.min_eq_left (by omega)] at h0; exact h0))
  have hrd : Calls Tryd.prog 26 #[.slice (some ⟨g, 1, none⟩) (m - 1) m] w1 (ReadsPost (canons (dat ((l.take m).drop 1))) w1) := by
    have hq : ((l.take m).drop 1).length = (m - 1) := by rw [List.length_drop, List.length_take, HLM.out, Nat.min_eq_left (by omega)]
    have h := reads_any (some ⟨g, 1, none⟩) m ((l.take m).drop 1) w1 HV1.out (by rw [hq]; exact HCT.out) (by rw [hq]; omega) (by rw [hq]; have := HN.out; have := HLM.out; omega) (fun x hx => HZ.out x (by first | exact hx | exact List.mem_of_mem_drop hx | exact List.mem_of_mem_take (List.mem_of_mem_drop hx)))
    rw [hq] at h
    exact h
  have hdt : (dat (l.take m)).tail = dat ((l.take m).drop 1) := by simp [dat]
  have hrc : ∀ o, canons (dat ((l.take m).drop 1)) = o → restC s.data.toList (dat (l.take m)) dd = (match o with
    | none => (evZ, 90)
    | some n => if okP (evOf (dat (l.take m)) n dd) ∧ evT (evOf (dat (l.take m)) n dd) = s.data.toList then (evOf (dat (l.take m)) n dd, 0) else (evZ, 90)) := by
    intro o h
    unfold restC
    rw [hdt, h]
  cases hcan : canons (dat ((l.take m).drop 1)) with
  | none =>
    rw [hcan] at hrd
    have HRD := Lib.hid (show Calls Tryd.prog 26 #[.slice (some ⟨g, 1, none⟩) (m - 1) m] w1 (fun e w' => e = .returned (.tuple #[.slice none 0 0, .bool false]) ∧ Below w1.heap.size w1 w') from hrd.mono fun e w' h => by
      rcases h with ⟨n, v, h, _⟩ | ⟨_, h, hb⟩
      · cases h
      · exact ⟨h, hb⟩)
    have HRS := Aside0.mk (show restC s.data.toList (dat (l.take m)) dd = (evZ, 90) from hrc none hcan)
    clear hrd hcan hrc hdt
    go_wp2_with (go_at_call 26; refine HRD.out.mono ?_; rintro e w2 ⟨rfl, hb2⟩; refine Hid.out ?_)
    refine Lib.hid ?_
    have HR2 := Aside0.mk (ev_below HR1.out hb2)
    have HB2 := Aside0.mk (HB1.out.trans (hb2.mono HB1.out.size))
    obtain ⟨r0, r1, r2, r3, r4, r5, rf⟩ := ev_cells HR2.out
    clear hc0 hb2
    go_wp2
    refine rd_close (b := w.heap.size) (e := evZ) (A := none) (c := 0) (code := 90) rfl rfl (put6_ev HR2.out evZ none 0) ?_
    rw [HRS.out]
    exact ⟨none, 0, rfl, Nat.le_refl _, Kd.C_nil _ _, put6_below HB2.out (Nat.le_refl _) evZ none 0⟩
  | some n =>
    rw [hcan] at hrd
    have hnr := canons_rng _ _ hcan
    have hnl : n.length ≤ 4294967296 := by
      have h1 := congrArg List.length hnr.2
      have hq : ((l.take m).drop 1).length = (m - 1) := by rw [List.length_drop, List.length_take, HLM.out, Nat.min_eq_left (by omega)]
      have h2 : (dat ((l.take m).drop 1)).length = (m - 1) := by rw [← hq]; simp [dat]
      rw [List.length_map, h2] at h1
      have := HN.out
      have := HLM.out
      omega
    have HRD := Lib.hid (show Calls Tryd.prog 26 #[.slice (some ⟨g, 1, none⟩) (m - 1) m] w1 (fun e w' => ∃ A3 c3, e = .returned (.tuple #[.slice A3 n.length c3, .bool true]) ∧ n.length ≤ c3 ∧ Kd.C (Kd.int .i64) w' A3 n.length n ∧ (∀ ad, A3 = some ad → 0 < n.length → w1.heap.size ≤ ad.block) ∧ Below w1.heap.size w1 w') from hrd.mono fun e w' h => by
      rcases h with ⟨n', v, h, he, hR, hb⟩ | ⟨h, _⟩
      · injection h with h
        subst h
        obtain ⟨A3, c3, rfl⟩ := Kd.R_slice hR
        refine ⟨A3, c3, he, (Kd.R_reads' hR).2.1, (Kd.R_reads' hR).2.2, fun ad had hpos => ?_, hb⟩
        obtain ⟨g3, cap3, h3, hg3, _⟩ := Kd.R_form hR hpos
        injection h3 with h3 _ _
        rw [had] at h3
        injection h3 with h3
        rw [h3]
        exact hg3
      · cases h)
    have HNR := Aside0.mk hnr.1
    have hrs := hrc (some n) hcan
    dsimp only at hrs
    clear hrd hcan hnr hrc hdt
    go_wp2_with (go_at_call 26; refine HRD.out.mono ?_; rintro e w2 ⟨A3, c3, rfl, hc3, hC3, hA3, hb2⟩; refine Hid.out ?_)
    refine Lib.hid ?_
    have HEO := Lib.hid (show Calls Tryd.prog 27 #[.slice (some ⟨g, 0, none⟩) m (m + 1), .slice A3 n.length c3, .int .i64 dd] w2 (fun x w' => EvOf A3 (evOf (dat (l.take m)) n dd) w2 x w') from by
      have hq : (l.take m).length = m := by rw [List.length_take, HLM.out, Nat.min_eq_left (by omega)]
      have h := event_of (some ⟨g, 0, none⟩) (m + 1) (l.take m) A3 c3 n dd w2 (by rw [hq]; exact Kd.C_below HCW.out hb2) hC3 hc3
      rw [hq] at h
      exact h)
    have hrg : EvR (evOf (dat (l.take m)) n dd) := evOf_rng _ _ _ HNR.out hdr
    have hlt1 := blk_lt HR1.out
    have hle := evOf_list (dat (l.take m)) n dd
    have hll : (evOf (dat (l.take m)) n dd).list.length ≤ 4294967296 := Nat.le_trans (evOf_list _ _ _) hnl
    generalize evOf (dat (l.take m)) n dd = ev at HEO hrg hll hrs hle
    have HA3 := Aside0.mk (show ∀ ad, A3 = some ad → 0 < ev.list.length → ad.block ≠ w.heap.size from fun ad h hp => by have := hA3 ad h (by omega); omega)
    clear hA3 hlt1 hle
    have HRS := Aside0.mk hrs
    clear hrs
    have HR2 := Aside0.mk (ev_below HR1.out hb2)
    have HB2 := Aside0.mk (HB1.out.trans (hb2.mono HB1.out.size))
    clear hc0 hb2 hC3 HR1 HB1
    go_wp2_with (go_at_call 27; refine HEO.out.mono ?_; rintro x w3 ⟨A4, c4, rfl, hlc, hC4, hA4, hb3⟩; refine Hid.out ?_)
    refine Lib.hid ?_
    have HR3 := Aside0.mk (ev_below (ev_below HR2.out hb3) ((Below.refl w3.heap.size w3).alloc (Nat.le_refl _) (.cells (evCells ev A4 c4) 24)))
    have hB3 := below_alloc (HB2.out.trans (hb3.mono HB2.out.size)) (.cells (evCells ev A4 c4) 24)
    have HE3 := Aside0.mk (alloc_ev (w := w3) rfl ev A4 c4)
    have hC5 := Kd.C_alloc hC4 (.cells (evCells ev A4 c4) 24)
    have HEA := Lib.hid (event_any ev A4 c4 _ (HE.out.step hB3) hrg hC5 hlc hll)
    have HB3 := Aside0.mk hB3
    have HC5 := Aside0.mk hC5
    obtain ⟨c0, c1, c2', c3', c4', c5, cf⟩ := ev_cells HE3.out
    have HA4 := Aside0.mk (show ∀ ad, A4 = some ad → 0 < ev.list.length → ad.block ≠ w.heap.size from fun ad h hp => by obtain ⟨a, ha, hb⟩ := hA4 ad h hp; rw [hb]; exact HA3.out a ha hp)
    clear hb3 hB3 hC5 hC4 HR2 HB2 hA4
    simp only [evCells] at c0 c1 c2' c3' c4' c5 cf ⊢
    go_wp2_with (go_at_call 7; refine HEA.out.mono ?_; rintro x w4 ⟨rfl, hb4⟩; refine Hid.out ?_)
    refine Lib.hid ?_
    have HR4 := Aside0.mk (ev_below HR3.out hb4)
    have HE4 := Aside0.mk (ev_below HE3.out hb4)
    have HB4 := Aside0.mk (HB3.out.trans (hb4.mono HB3.out.size))
    have HC6 := Aside0.mk (Kd.C_below HC5.out hb4)
    have HLC := Aside0.mk hlc
    clear c0 c1 c2' c3' c4' c5 cf hb4 HR3 HE3 HB3 HC5 HEA HEO HRD hlc
    obtain ⟨r0, r1, r2, r3, r4, r5, rf⟩ := ev_cells HR4.out
    obtain ⟨c0, c1, c2', c3', c4', c5, cf⟩ := ev_cells HE4.out
    by_cases hok : okP ev
    · have hA : evA ev = (evT ev, 0) := if_pos hok
      rw [hA]
      by_cases heq : evT ev = s.data.toList
      · have hbe : ((ofL (evT ev)).toList == s.toList) = true := by rw [beq_iff_eq, toList_data, toList_data, data_ofL]; exact heq
        have hres : (if okP ev ∧ evT ev = s.data.toList then (ev, (0 : Int)) else (evZ, 90)) = (ev, 0) := if_pos ⟨hok, heq⟩
        have HRT := Aside0.mk (HRS.out.trans hres)
        clear hok hA heq hres
        go_wp2
        refine rd_close (b := w.heap.size) (e := ev) (A := A4) (c := c4) (code := 0) rfl rfl (put6_ev HR4.out ev A4 c4) ?_
        rw [HRT.out]
        have hBf := put6_below HB4.out (Nat.le_refl _) ev A4 c4
        exact ⟨A4, c4, rfl, HLC.out, Kd.C_keep (d := (0 : Int)) (g := w.heap.size) HC6.out (put6_keep w4 w.heap.size ev A4 c4) HA4.out, hBf⟩
      · have hbe : ((ofL (evT ev)).toList == s.toList) = false := by rw [beq_eq_false_iff_ne, toList_data, toList_data, data_ofL]; exact heq
        have hres : (if okP ev ∧ evT ev = s.data.toList then (ev, (0 : Int)) else (evZ, 90)) = (evZ, 90) := if_neg (fun h => heq h.2)
        have HRT := Aside0.mk (HRS.out.trans hres)
        clear hok hA heq hres
        go_wp2
        refine rd_close (b := w.heap.size) (e := evZ) (A := none) (c := 0) (code := 90) rfl rfl (put6_ev HR4.out evZ none 0) ?_
        rw [HRT.out]
        exact ⟨none, 0, rfl, Nat.le_refl _, Kd.C_nil _ _, put6_below HB4.out (Nat.le_refl _) evZ none 0⟩
    · have hA : evA ev = ([], 90) := if_neg hok
      rw [hA]
      have hres : (if okP ev ∧ evT ev = s.data.toList then (ev, (0 : Int)) else (evZ, 90)) = (evZ, 90) := if_neg (fun h => hok h.1)
      have HRT := Aside0.mk (HRS.out.trans hres)
      clear hok hA hres
      go_wp2
      refine rd_close (b := w.heap.size) (e := evZ) (A := none) (c := 0) (code := 90) rfl rfl (put6_ev HR4.out evZ none 0) ?_
      rw [HRT.out]
      exact ⟨none, 0, rfl, Nat.le_refl _, Kd.C_nil _ _, put6_below HB4.out (Nat.le_refl _) evZ none 0⟩

end Go.Proofs.YtokioddaonknpaaDoor.A
