/- Own text: answers.ReadEvent, for every line. -/
import Derived.Test.YtokioddaonknpaaDoorE9
namespace Go.Proofs.YtokioddaonknpaaDoor.A
open Go.RowKit Go.Proofs.YtokioddaonknpaaDoorW.PrintWords Go.Proofs.YtokioddaonknpaaDoor.PAnswersReads

theorem readEvent_any (s : ByteArray) (hs : s.size ≤ 2147483648) (w : World) (hE : Env w) : Calls Tryd.prog 9 #[.string s] w (RdOf (rdC s.data.toList) w) := by
  obtain ⟨l, hl⟩ : ∃ l, l = (wds s).map ofL := ⟨_, rfl⟩
  have hds : dat l = splA [] s.data.toList := by rw [hl, dat_ofL]; rfl
  have hsp := fun W hE => split_any s (by omega) W hE
  rw [← hl] at hsp
  have hne : l ≠ [] := by
    rw [hl]
    intro h
    exact splA_ne s.data.toList [] (List.map_eq_nil_iff.1 h)
  rw [rdC_rest, ← hds]
  obtain ⟨x0, r, rfl⟩ := List.exists_cons_of_ne_nil hne
  have h0 : (dat (x0 :: r)).getD 0 [] = x0.data.toList := rfl
  by_cases hx : x0 = ⟨#[101, 110, 100]⟩
  · have he : x0.data.toList = wEnd := by rw [hx]; rfl
    have hh : headsW (dat (x0 :: r)) = (dat (x0 :: r)).take ((dat (x0 :: r)).length - 1) := by unfold headsW; rw [if_pos (by rw [h0]; exact he)]
    have hd : endedW (dat (x0 :: r)) = stateN (lastW (dat (x0 :: r))) := by unfold endedW; rw [if_pos (by rw [h0]; exact he)]
    rw [hh, hd]
    cases r with
    | nil =>
      exact read_B1 s [x0] x0 rfl hds hs _ (by rw [hx]; rfl) hx rfl w hE hsp
    | cons y r =>
      have hnum := splA_num s.data.toList []
      rw [← hds, data_length] at hnum
      have hm : (x0 :: y :: r).length = (y :: r).length + 1 := rfl
      have e1 : (dat (x0 :: y :: r)).take ((dat (x0 :: y :: r)).length - 1) = dat ((x0 :: y :: r).take (y :: r).length) := by simp [dat, List.map_take]
      rw [e1]
      refine read_B2 s (x0 :: y :: r) x0 rfl hds hs (y :: r).length (by simp [dat] at hnum; simp; omega) hm ((x0 :: y :: r).getD (y :: r).length ByteArray.empty) rfl _ ?_ hx (by simp) w hE ?_
      · unfold lastW
        have e2 : (dat (x0 :: y :: r)).length - 1 = (y :: r).length := by simp [dat]
        rw [e2]
        have hlt : (y :: r).length < (x0 :: y :: r).length := by simp
        congr 1
        rw [List.getD_eq_getElem?_getD, List.getD_eq_getElem?_getD, dat, List.getElem?_map, List.getElem?_eq_getElem hlt]
        rfl
      · exact hsp
  · have he : ¬ x0.data.toList = wEnd := fun h => hx (by rw [← ofL_data x0, h]; rfl)
    have hh : headsW (dat (x0 :: r)) = dat (x0 :: r) := by unfold headsW; rw [if_neg (by rw [h0]; exact he)]
    have hd : endedW (dat (x0 :: r)) = 0 := by unfold endedW; rw [if_neg (by rw [h0]; exact he)]
    rw [hh, hd]
    cases r with
    | nil => exact read_A1 s [x0] x0 rfl hds hs hx rfl w hE hsp
    | cons y r => exact read_A2 s (x0 :: y :: r) x0 rfl hds hs hx (by simp) w hE hsp

end Go.Proofs.YtokioddaonknpaaDoor.A
