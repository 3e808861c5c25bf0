/- Own text: the walk of answers.reads. -/
import Derived.Test.YtokioddaonknpaaDoorE4
namespace Go.Proofs.YtokioddaonknpaaDoor.A
open Go.RowKit Go.Proofs.YtokioddaonknpaaDoorW.PrintWords Go.Proofs.YtokioddaonknpaaDoor.PAnswersReads
set_option linter.unusedSimpArgs false

def ReadsPost (o : Option (List Int)) (w : World) (e : Ending) (w' : World) : Prop :=
  (∃ n v, o = some n ∧ e = .returned (.tuple #[v, .bool true]) ∧ Kd.R (Kd.int .i64) 3 w' w.heap.size (fun _ => True) v n ∧ Below w.heap.size w w') ∨ (o = none ∧ e = .returned (.tuple #[.slice none 0 0, .bool false]) ∧ Below w.heap.size w w')
theorem canon_no {x : List UInt8} (h : ∀ v, Lib.atoiAll x ≠ .ok v) : canon x = none := by
  unfold canon
  split
  · rename_i v hv; exact absurd hv (h v)
  · rfl
theorem canon_ok {x : List UInt8} {v : Int} (h : Lib.atoiAll x = .ok v) : canon x = if Lib.itoa v = x then some v else none := by
  unfold canon
  rw [h]
theorem dat_drop (l : List ByteArray) (j : Nat) (hj : j < l.length) (x : ByteArray) (hx : x = l.getD j ByteArray.empty) : dat (l.drop j) = x.data.toList :: dat (l.drop (j + 1)) := by
  rw [List.drop_eq_getElem_cons hj, hx, List.getD_eq_getElem?_getD, List.getElem?_eq_getElem hj]
  rfl
theorem canons_no {c : Option (List Int)} {l : List ByteArray} {acc : List Int} {j : Nat} {x : ByteArray} {r : List (List UInt8)} (hp : c = (canons (dat (l.drop j))).map (acc ++ ·)) (hd : dat (l.drop j) = x.data.toList :: r) (h : canon x.data.toList = none) : c = none := by
  rw [hp, hd, canons, h]
  rfl
theorem canons_yes {c : Option (List Int)} {l : List ByteArray} {acc : List Int} {j : Nat} {x : ByteArray} {v : Int} {r : List (List UInt8)} (hp : c = (canons (dat (l.drop j))).map (acc ++ ·)) (hd : dat (l.drop j) = x.data.toList :: r) (h : canon x.data.toList = some v) : c = (canons r).map ((acc ++ [v]) ++ ·) := by
  rw [hp, hd, canons, h]
  cases canons r <;> simp

theorem atoi_two (s : ByteArray) (hs : s.size ≤ 281474976710656) (w : World) (hE : Env w) : Calls Tryd.prog 47 #[.string s] w fun e w' => ∃ a b, e = .returned (.tuple #[.int .i64 a, b]) ∧ Below w.heap.size w w' ∧ ((Lib.atoiAll s.data.toList = .ok a ∧ b = .nilIface) ∨ ((∀ v, Lib.atoiAll s.data.toList ≠ .ok v) ∧ ∃ N, b = .iface 106 (.pointer (some ⟨N, 0, none⟩)))) :=
  (atoi_any s hs w hE).mono fun e w' ⟨hb, h⟩ => by
    rcases h with ⟨v, hv, rfl⟩ | ⟨N, x, hv, rfl⟩
    · exact ⟨_, _, rfl, hb, .inl ⟨hv, rfl⟩⟩
    · exact ⟨_, _, rfl, hb, .inr ⟨hv, N, rfl⟩⟩

set_option maxHeartbeats 8000000 in
set_option maxRecDepth 100000 in
theorem reads_any (A : Option Addr) (c : Nat) (l : List ByteArray) (w : World) (hE : Env w) (hC : Kd.C Kd.string w A l.length l) (_hc : l.length ≤ c) (hl : l.length ≤ 4294967296) (hs : ∀ x ∈ l, x.size ≤ 4294967296) :
    Calls Tryd.prog 26 #[.slice A l.length c] w (ReadsPost (canons (dat l)) w) := by
  have HC := Aside0.mk hC
  have HE := Aside0.mk hE
  have HS := Aside0.mk hs
  clear hC hE hs
  go_enter Tryd.func26, Tryd.ntmps26
  go_wp2
  go_loopw [4, 11] (fun sv i wr => ∃ (j : Nat) (acc : List Int), j ≤ l.length ∧ i = .int .i64 j ∧ acc.length = j ∧ Aside0 (canons (dat l) = (canons (dat (l.drop j))).map (acc ++ ·)) ∧ Aside0 (Kd.R (Kd.int .i64) 3 wr w.heap.size (fun _ => True) sv acc) ∧ Aside0 (Below w.heap.size w wr)) (fun _ i _ => l.length - (intOf i).toNat)
  case atStart => exact ⟨0, [], by omega, rfl, rfl, ⟨by rw [List.drop_zero]; cases canons (dat l) <;> simp⟩, ⟨Kd.R_nil _ _ _ _ _⟩, ⟨Below.refl _ _⟩⟩
  case round =>
    obtain ⟨j, acc, hj, rfl, hal, hS, hO, hq⟩ := hrel
    by_cases hjl : j < l.length
    · have hjB : decide ((j : Int) < (l.length : Int)) = true := decide_eq_true (by omega)
      obtain ⟨ad, rfl, hc0⟩ := Kd.at_string (Kd.C_below HC.out hq.out) (j : Int) (by omega) (by omega)
      rw [Int.toNat_natCast] at hc0
      obtain ⟨x, hx⟩ : ∃ x, x = l.getD j ByteArray.empty := ⟨_, rfl⟩
      have hcx : wr.cell? (ad.add j) = some (.string x) := hc0.trans (by rw [hx]; unfold rdOf; rw [Int.toNat_natCast])
      have hxs : x.size ≤ 4294967296 := by
        rw [hx]
        refine HS.out _ ?_
        rw [List.getD_eq_getElem?_getD, List.getElem?_eq_getElem hjl]
        exact List.getElem_mem hjl
      have Hd := Aside0.mk (dat_drop l j hjl x hx)
      have hat := atoi_two x (by omega) wr (HE.out.step hq.out)
      have Hat := Lib.hid hat
      clear hc0 hx hat
      go_wp2_with (go_at_call 47; refine Hat.out.mono ?_; rintro e w2 ⟨v, er, rfl, hb2, hcase⟩; refine Hid.out ?_)
      refine Lib.hid ?_
      have HB2 := Aside0.mk (hq.out.trans (hb2.mono hq.out.size))
      have HE2 := Aside0.mk (HE.out.step HB2.out)
      have HO2 := Aside0.mk (Kd.R_below hO.out hb2)
      clear Hat hb2
      rcases hcase with ⟨hv, rfl⟩ | ⟨hv, N, rfl⟩
      · have hvr : Rng v := Lib.atoiAll_bounds hv
        have hit := itoa_any v hvr w2 HE2.out
        obtain ⟨t, ht⟩ : ∃ t, t = ofL (Lib.itoa v) := ⟨_, rfl⟩
        rw [← ht] at hit
        have Hit := Lib.hid hit
        clear hit
        by_cases heq : Lib.itoa v = x.data.toList
        · have hne : (t.toList == x.toList) = true := by rw [beq_iff_eq, ht, toList_data, toList_data, data_ofL]; exact heq
          have hcn : canon x.data.toList = some v := by rw [canon_ok hv, if_pos heq]
          have hfin := Aside0.mk (canons_yes hS.out Hd.out hcn)
          clear hv ht hcn heq hS
          go_wp2_with (first | (go_at_call 42; refine Hit.out.mono ?_; rintro e w3 ⟨rfl, hb3⟩; have HR6 := Aside0.mk (Kd.R_below HO2.out hb3); have HB6 := Aside0.mk (HB2.out.trans (hb3.mono HB2.out.size)); clear hb3) | (at_builtin; refine Kd.R_append (Kd.int .i64) (w0 := w) w.heap.size rfl (.tmp 28) (.tmp 30) 22 3 (.int .i64 0) 8 rfl Tryd.underlying22 infoI rfl (by decide) (by omega) _ acc v [.int .i64 v] (fun _ => True) (fun _ => False) rfl ?aX ?aP (fun _ hk => hk.elim) ?aF ?aO ?aB ?aS ?aL ?_; (case aX => (first | rfl | (go_simp; done) | (go_simp; rfl))); (case aP => exact rfl); (case aF => exact (fun _ _ => trivial)); (case aO => exact HR6.out); (case aB => exact HB6.out); (case aS => exact HB6.out.size); (case aL => omega); intro v7 w7 ho7 hb7 hg7 hat7))
          go_roundw
          case rel => exact ⟨j + 1, acc ++ [v], by omega, by go_num, by simp; omega, hfin, ⟨ho7⟩, ⟨hb7⟩⟩
          case measure => simp [intOf]; omega
        · have hne : (t.toList == x.toList) = false := by rw [beq_eq_false_iff_ne, ht, toList_data, toList_data, data_ofL]; exact heq
          have hcn : canon x.data.toList = none := by rw [canon_ok hv, if_neg heq]
          have hfin := Aside0.mk (canons_no hS.out Hd.out hcn)
          clear hv ht hcn heq hS
          go_wp2_with (go_at_call 42; refine Hit.out.mono ?_; rintro e w3 ⟨rfl, hb3⟩)
          go_ret2
          exact .inr ⟨hfin.out, rfl, HB2.out.trans (hb3.mono HB2.out.size)⟩
      · have hfin := Aside0.mk (canons_no hS.out Hd.out (canon_no hv))
        clear hv hS
        go_wp2
        go_ret2
        exact .inr ⟨hfin.out, rfl, HB2.out⟩
    · have hjB : decide ((j : Int) < (l.length : Int)) = false := decide_eq_false (by omega)
      have hfin : canons (dat l) = some acc := by
        rw [hS.out, List.drop_of_length_le (by omega)]
        simp [dat, canons]
      have HF := Aside0.mk hfin
      clear hfin hS
      go_wp2
      go_ret2
      exact .inl ⟨acc, _, HF.out, rfl, hO.out, hq.out⟩

end Go.Proofs.YtokioddaonknpaaDoor.A
