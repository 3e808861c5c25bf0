/- Own text: the reference's numerals, conditions and readings, in plain Lean: they come to what the program's come to. -/
import Derived.Test.YtokioddaonknpaaDoorP2
namespace Go.Proofs.YtokioddaonknpaaDoor.A
open Go.Lib
set_option linter.unusedSimpArgs false

/-! ### numerals of the reference -/
def wLoop : Nat → List UInt8 → Option Nat
  | acc, [] => some acc
  | acc, c :: r => if (48 ≤ c.toNat ∧ c.toNat ≤ 57) ∧ acc * 10 + (c.toNat - 48) < 18446744073709551616 then wLoop (acc * 10 + (c.toNat - 48)) r else none
def wholeP (l : List UInt8) : Option Nat := if l.length < 1 ∨ 20 < l.length ∨ (l.head? = some 48 ∧ 1 < l.length) then none else wLoop 0 l
def numP (l : List UInt8) : Option Int :=
  if l.head? = some 45 then (match wholeP l.tail with
    | some n => if 1 ≤ n ∧ n ≤ 9223372036854775808 then some (-(n : Int)) else none
    | none => none)
  else (match wholeP l with
    | some n => if n ≤ 9223372036854775807 then some (n : Int) else none
    | none => none)
theorem wLoop_app (c : UInt8) (hc : 48 ≤ c.toNat ∧ c.toNat ≤ 57) : ∀ (l : List UInt8) (acc v : Nat), wLoop acc l = some v → v * 10 + (c.toNat - 48) < 18446744073709551616 → wLoop acc (l ++ [c]) = some (v * 10 + (c.toNat - 48))
  | [], acc, v, h, hv => by
    simp only [wLoop] at h
    injection h with h
    subst h
    simp only [List.nil_append, wLoop]
    rw [if_pos ⟨hc, hv⟩]
  | d :: r, acc, v, h, hv => by
    simp only [wLoop] at h
    simp only [List.cons_append, wLoop]
    split at h
    · rename_i hd
      rw [if_pos hd]
      exact wLoop_app c hc r _ v h hv
    · cases h
theorem wLoop_dec (u : Nat) : u < 18446744073709551616 → wLoop 0 (decDigits u) = some u := by
  induction u using Nat.strongRecOn with
  | _ u ih =>
    intro hu
    by_cases h10 : u < 10
    · rw [decDigits, dif_pos h10]
      have e : (UInt8.ofNat (48 + u)).toNat = 48 + u := by simp; omega
      simp only [wLoop, e]
      rw [if_pos (by omega)]
      congr 1; omega
    · rw [decDigits, dif_neg h10]
      have e : (UInt8.ofNat (48 + u % 10)).toNat = 48 + u % 10 := by simp; omega
      have := wLoop_app (UInt8.ofNat (48 + u % 10)) (by rw [e]; omega) _ 0 _ (ih (u / 10) (by omega) (by omega)) (by rw [e]; omega)
      rw [this, e]
      congr 1; omega
theorem wLoop_lt : ∀ (l : List UInt8) (acc v : Nat), acc < 18446744073709551616 → wLoop acc l = some v → v < 18446744073709551616
  | [], acc, v, ha, h => by simp only [wLoop] at h; injection h with h; omega
  | c :: r, acc, v, ha, h => by
    simp only [wLoop] at h
    split at h
    · rename_i hd
      exact wLoop_lt r _ v hd.2 h
    · cases h
theorem decDigits_head (u : Nat) (h : 0 < u) : (decDigits u).head? ≠ some 48 := by
  induction u using Nat.strongRecOn with
  | _ u ih =>
    by_cases h10 : u < 10
    · rw [decDigits, dif_pos h10]
      simp only [List.head?_cons, ne_eq, Option.some.injEq]
      intro e
      have := congrArg UInt8.toNat e
      simp at this
      omega
    · rw [decDigits, dif_neg h10]
      have h1 := ih (u / 10) (by omega) (by omega)
      obtain ⟨x, r, e⟩ := List.exists_cons_of_ne_nil (decDigits_ne (u / 10))
      rw [e] at h1 ⊢
      simpa using h1
theorem wholeP_dec (u : Nat) (hu : u < 18446744073709551616) : wholeP (decDigits u) = some u := by
  have hl := decDigits_length u
  have h1 := nDigits_pos u
  have h2 := nDigits_le20 u hu
  unfold wholeP
  rw [if_neg, wLoop_dec u hu]
  rintro (h | h | ⟨h, h'⟩)
  · omega
  · omega
  · have : 0 < u := by
      rcases Nat.eq_zero_or_pos u with rfl | h0
      · rw [hl, nDigits_small (by omega)] at h'; omega
      · exact h0
    exact decDigits_head u this h
theorem numP_itoa (n : Int) (h : Rng n) : numP (itoa n) = some n := by
  unfold Rng at h
  unfold itoa
  by_cases hn : n < 0
  · rw [if_pos hn]
    unfold numP
    rw [if_pos (by simp), List.tail_cons, wholeP_dec _ (by omega)]
    simp only
    rw [if_pos (by omega)]
    congr 1; omega
  · rw [if_neg hn]
    have hh : (decDigits n.toNat).head? ≠ some 45 := by
      obtain ⟨c, r, e⟩ := List.exists_cons_of_ne_nil (decDigits_ne n.toNat)
      have hc := decDigits_digit n.toNat c (by rw [e]; simp)
      rw [e]
      simp only [List.head?_cons, ne_eq, Option.some.injEq]
      intro e
      subst e
      exact absurd hc.1 (by decide)
    unfold numP
    rw [if_neg hh, wholeP_dec _ (by omega)]
    simp only
    rw [if_pos (by omega)]
    congr 1; omega
theorem wholeP_lt {l : List UInt8} {v : Nat} (h : wholeP l = some v) : v < 18446744073709551616 := by
  unfold wholeP at h
  split at h
  · cases h
  · exact wLoop_lt l 0 v (by omega) h
theorem numP_rng {l : List UInt8} {v : Int} (h : numP l = some v) : Rng v := by
  unfold Rng
  unfold numP at h
  split at h
  · split at h
    · split at h
      · rename_i hn; injection h with h; omega
      · cases h
    · cases h
  · split at h
    · split at h
      · rename_i hn; injection h with h; omega
      · cases h
    · cases h
def numsP : List (List UInt8) → Option (List Int)
  | [] => some []
  | x :: r => match numP x with
    | none => none
    | some v => match numsP r with
      | none => none
      | some l => some (v :: l)
theorem numsP_itoa : ∀ l : List Int, (∀ n ∈ l, Rng n) → numsP (l.map itoa) = some l
  | [], _ => rfl
  | n :: l, h => by
    rw [List.map_cons, numsP, numP_itoa n (h n (by simp)), numsP_itoa l (fun x hx => h x (by simp [hx]))]
theorem numsP_rng : ∀ (l : List (List UInt8)) (r : List Int), numsP l = some r → ∀ n ∈ r, Rng n
  | [], r, h => by simp only [numsP] at h; injection h with h; subst h; intro n hn; cases hn
  | x :: l, r, h => by
    simp only [numsP] at h
    split at h
    · cases h
    · rename_i v hv
      split at h
      · cases h
      · rename_i q hq
        injection h with h
        subst h
        intro n hn
        rcases List.mem_cons.1 hn with rfl | hn
        · exact numP_rng hv
        · exact numsP_rng l q hq n hn
theorem canons_rng : ∀ (l : List (List UInt8)) (r : List Int), canons l = some r → (∀ n ∈ r, Rng n) ∧ r.map itoa = l
  | [], r, h => by simp only [canons] at h; injection h with h; subst h; exact ⟨fun n hn => by (cases hn), rfl⟩
  | x :: l, r, h => by
    simp only [canons] at h
    split at h
    · cases h
    · rename_i v hv
      split at h
      · cases h
      · rename_i q hq
        injection h with h
        subst h
        have := canons_rng l q hq
        refine ⟨fun n hn => ?_, ?_⟩
        · rcases List.mem_cons.1 hn with rfl | hn
          · exact (canon_rng hv).1
          · exact this.1 n hn
        · rw [List.map_cons, this.2, (canon_rng hv).2]

/-! ### the reference's Event -/
def onlyE (e : Ev) : Ev := ⟨e.kind, if e.kind = 1 ∨ e.kind = 2 ∨ e.kind = 3 ∨ e.kind = 4 then e.job else 0, e.tm, if e.kind = 1 ∨ e.kind = 3 then e.nodes else 0, if e.kind = 1 then e.limit else 0, if e.kind = 2 ∨ e.kind = 5 then e.list else []⟩
def refP (e : Ev) : Prop := (1 ≤ e.kind ∧ e.kind ≤ 7) ∧ onlyE e = e ∧ 0 ≤ e.job ∧ 0 ≤ e.tm ∧ 0 ≤ e.nodes ∧ 0 ≤ e.limit ∧ nonneg e.list ∧ ¬ (e.kind = 3 ∧ (e.nodes < 3 ∨ 6 < e.nodes)) ∧ ¬ (e.kind = 2 ∧ ¬ risesP (-1) e.list)
theorem refP_iff (e : Ev) : refP e ↔ okP e := by
  have hE : onlyE e = e ↔ (onlyE e).job = e.job ∧ (onlyE e).nodes = e.nodes ∧ (onlyE e).limit = e.limit ∧ (onlyE e).list = e.list := by
    constructor
    · intro h; rw [h]; exact ⟨rfl, rfl, rfl, rfl⟩
    · rintro ⟨h1, h2, h3, h4⟩
      exact ev_eq rfl h1 rfl h2 h3 h4
  unfold refP okP
  rw [hE]
  by_cases hk : 1 ≤ e.kind ∧ e.kind ≤ 7
  · have : e.kind = 1 ∨ e.kind = 2 ∨ e.kind = 3 ∨ e.kind = 4 ∨ e.kind = 5 ∨ e.kind = 6 ∨ e.kind = 7 := by omega
    have hn0 : nonneg [] := fun n hn => by cases hn
    have hr := fun h => rises_nonneg e.list (-1) (by omega) h
    rcases this with h | h | h | h | h | h | h
    all_goals
      simp only [kindP, onlyE, bareP, h]
      simp
    · intro h1 _ _ _ _
      rw [h1]
      exact hn0
    · constructor
      · rintro ⟨⟨h1, h2⟩, h3, h4, h5, h6, h7, h8⟩; exact ⟨⟨⟨h1.symm, h2.symm⟩, h8⟩, h3, h4, h5, h6⟩
      · rintro ⟨⟨⟨h1, h2⟩, h8⟩, h3, h4, h5, h6⟩; exact ⟨⟨h1.symm, h2.symm⟩, h3, h4, h5, h6, hr h8, h8⟩
    · constructor
      · rintro ⟨⟨h1, h2⟩, h3, h4, h5, h6, h7, h8, h9⟩; exact ⟨⟨⟨h8, h9⟩, h1.symm, h2⟩, h3, h4, h5, h6⟩
      · rintro ⟨⟨⟨h8, h9⟩, h1, h2⟩, h3, h4, h5, h6⟩; exact ⟨⟨h1.symm, h2⟩, h3, h4, h5, h6, by rw [h2]; exact hn0, h8, h9⟩
    · constructor
      · rintro ⟨⟨h1, h2, h0⟩, h3, h4, h5, h6, h7⟩; exact ⟨⟨⟨h1.symm, h2.symm⟩, h0⟩, h3, h4, h5, h6⟩
      · rintro ⟨⟨⟨h1, h2⟩, h0⟩, h3, h4, h5, h6⟩; exact ⟨⟨h1.symm, h2.symm, h0⟩, h3, h4, h5, h6, by rw [h0]; exact hn0⟩
    · constructor
      · rintro ⟨⟨h0, h1, h2⟩, h3, h4, h5, h6, h7⟩; exact ⟨⟨⟨h1.symm, h2.symm⟩, h0.symm, h7⟩, h3, h4, h5, h6⟩
      · rintro ⟨⟨⟨h1, h2⟩, h0, h7⟩, h3, h4, h5, h6⟩; exact ⟨⟨h0.symm, h1.symm, h2.symm⟩, h3, h4, h5, h6, h7⟩
    all_goals
      constructor
      · rintro ⟨⟨h0, h1, h2, h8⟩, h3, h4, h5, h6, h7⟩; exact ⟨⟨⟨h1.symm, h2.symm⟩, h0.symm, h8⟩, h3, h4, h5, h6⟩
      · rintro ⟨⟨⟨h1, h2⟩, h0, h8⟩, h3, h4, h5, h6⟩; exact ⟨⟨h0.symm, h1.symm, h2.symm, h8⟩, h3, h4, h5, h6, by rw [h8]; exact hn0⟩
  · constructor
    · intro h; exact absurd h.1 hk
    · intro h
      have := okP_kind (e := e) h
      omega

/-! ### the reference's ReadEvent -/
def endR (ws : List (List UInt8)) : Prop := ws.getD 0 [] = wEnd ∧ ws.length = 4
instance (ws : List (List UInt8)) : Decidable (endR ws) := inferInstanceAs (Decidable (_ ∧ _))
def headsR (ws : List (List UInt8)) : List (List UInt8) := if endR ws then ws.take 3 else ws
def stateR (x : List UInt8) : Int := if stateL 6 = x then 6 else if stateL 5 = x then 5 else if stateL 4 = x then 4 else if stateL 3 = x then 3 else 0
def evR (ws : List (List UInt8)) (n : List Int) : Option Ev :=
  if ws.getD 0 [] = wSubmit ∧ n.length = 4 then some ⟨1, n.getD 0 0, n.getD 1 0, n.getD 2 0, n.getD 3 0, []⟩
  else if ws.getD 0 [] = wStart ∧ 2 ≤ n.length then some ⟨2, n.getD 0 0, n.getD 1 0, 0, 0, n.drop 2⟩
  else if endR ws ∧ n.length = 2 then some ⟨3, n.getD 0 0, n.getD 1 0, stateR (ws.getD 3 []), 0, []⟩
  else if ws.getD 0 [] = wPin ∧ n.length = 2 then some ⟨4, n.getD 0 0, n.getD 1 0, 0, 0, []⟩
  else if ws.getD 0 [] = wPass ∧ 1 ≤ n.length then some ⟨5, 0, n.getD 0 0, 0, 0, n.drop 1⟩
  else if ws.getD 0 [] = wTick ∧ n.length = 1 then some ⟨6, 0, n.getD 0 0, 0, 0, []⟩
  else if ws.getD 0 [] = wDecay ∧ n.length = 1 then some ⟨7, 0, n.getD 0 0, 0, 0, []⟩
  else none
def rdR (s : List UInt8) : Ev × Int :=
  match numsP (headsR (splA [] s)).tail with
  | none => (evZ, 90)
  | some n => match evR (splA [] s) n with
    | none => (evZ, 90)
    | some e => if okP e ∧ evT e = s then (e, 0) else (evZ, 90)
theorem stateR_L (n : Int) (h : 3 ≤ n ∧ n ≤ 6) : stateR (stateL n) = n := by
  have : n = 3 ∨ n = 4 ∨ n = 5 ∨ n = 6 := by omega
  rcases this with rfl | rfl | rfl | rfl <;> decide
theorem evR_evW {e : Ev} (hr : EvR e) (h : okP e) : ∃ n, numsP (headsR (evW e)).tail = some n ∧ evR (evW e) n = some e := by
  have hk := h.1
  have d1 : wStart ≠ wSubmit := by decide
  have d2 : wEnd ≠ wSubmit := by decide
  have d3 : wEnd ≠ wStart := by decide
  have d4 : wPin ≠ wSubmit := by decide
  have d5 : wPin ≠ wStart := by decide
  have d6 : wPin ≠ wEnd := by decide
  have d7 : wPass ≠ wSubmit := by decide
  have d8 : wPass ≠ wStart := by decide
  have d9 : wPass ≠ wEnd := by decide
  have d10 : wPass ≠ wPin := by decide
  have d11 : wTick ≠ wSubmit := by decide
  have d12 : wTick ≠ wStart := by decide
  have d13 : wTick ≠ wEnd := by decide
  have d14 : wTick ≠ wPin := by decide
  have d15 : wTick ≠ wPass := by decide
  have d16 : wDecay ≠ wSubmit := by decide
  have d17 : wDecay ≠ wStart := by decide
  have d18 : wDecay ≠ wEnd := by decide
  have d19 : wDecay ≠ wPin := by decide
  have d20 : wDecay ≠ wPass := by decide
  have d21 : wDecay ≠ wTick := by decide
  have d22 : wSubmit ≠ wEnd := by decide
  have d23 : wStart ≠ wEnd := by decide
  rcases okP_kind h with h1 | h1 | h1 | h1 | h1 | h1 | h1
  · simp only [kindP, h1] at hk
    have hw : evW e = [wSubmit, itoa e.job, itoa e.tm, itoa e.nodes, itoa e.limit] := by unfold evW; rw [if_pos h1]
    have hh : headsR (evW e) = evW e := by unfold headsR endR; rw [hw]; simp
    rw [hh, hw]
    refine ⟨[e.job, e.tm, e.nodes, e.limit], numsP_itoa [e.job, e.tm, e.nodes, e.limit] (by simp [hr.job, hr.tm, hr.nodes, hr.limit]), ?_⟩
    simp [evR]
    exact ev_eq h1.symm rfl rfl rfl rfl (by simpa using hk.symm)
  · simp only [kindP, h1] at hk
    have hb : bareP e := hk.1
    have hw : evW e = wStart :: itoa e.job :: itoa e.tm :: e.list.map itoa := by unfold evW; rw [h1]; rfl
    have hh : headsR (evW e) = evW e := by unfold headsR endR; rw [hw]; simp [d23]
    rw [hh, hw]
    refine ⟨e.job :: e.tm :: e.list, numsP_itoa (e.job :: e.tm :: e.list) (by intro n hn; simp at hn; rcases hn with rfl | rfl | hn; exact hr.job; exact hr.tm; exact hr.list _ hn), ?_⟩
    simp [evR, d1]
    exact ev_eq h1.symm rfl rfl hb.1.symm hb.2.symm rfl
  · simp only [kindP, h1] at hk
    have hk' : (3 ≤ e.nodes ∧ e.nodes ≤ 6) ∧ e.limit = 0 ∧ e.list = [] := hk
    have hw : evW e = [wEnd, itoa e.job, itoa e.tm, stateL e.nodes] := by unfold evW; rw [h1]; rfl
    have hh : headsR (evW e) = [wEnd, itoa e.job, itoa e.tm] := by unfold headsR endR; rw [hw]; simp
    rw [hh, hw]
    refine ⟨[e.job, e.tm], numsP_itoa [e.job, e.tm] (by simp [hr.job, hr.tm]), ?_⟩
    simp [evR, d2, d3, endR]
    exact ev_eq h1.symm rfl rfl (stateR_L _ hk'.1) hk'.2.1.symm hk'.2.2.symm
  · simp only [kindP, h1] at hk
    have hk' : bareP e ∧ e.list = [] := hk
    have hw : evW e = [wPin, itoa e.job, itoa e.tm] := by unfold evW; rw [h1]; rfl
    have hh : headsR (evW e) = evW e := by unfold headsR endR; rw [hw]; simp
    rw [hh, hw]
    refine ⟨[e.job, e.tm], numsP_itoa [e.job, e.tm] (by simp [hr.job, hr.tm]), ?_⟩
    simp [evR, d4, d5, d6, endR]
    exact ev_eq h1.symm rfl rfl hk'.1.1.symm hk'.1.2.symm hk'.2.symm
  · simp only [kindP, h1] at hk
    have hk' : bareP e ∧ e.job = 0 ∧ nonneg e.list := hk
    have hw : evW e = wPass :: itoa e.tm :: e.list.map itoa := by unfold evW; rw [h1]; rfl
    have hh : headsR (evW e) = evW e := by unfold headsR endR; rw [hw]; simp [d9]
    rw [hh, hw]
    refine ⟨e.tm :: e.list, numsP_itoa (e.tm :: e.list) (by intro n hn; simp at hn; rcases hn with rfl | hn; exact hr.tm; exact hr.list _ hn), ?_⟩
    simp [evR, d7, d8, d9, d10, endR]
    exact ev_eq h1.symm hk'.2.1.symm rfl hk'.1.1.symm hk'.1.2.symm rfl
  · simp only [kindP, h1] at hk
    have hk' : bareP e ∧ e.job = 0 ∧ e.list = [] := by simpa using hk
    have hw : evW e = [wTick, itoa e.tm] := by unfold evW; rw [h1]; rfl
    have hh : headsR (evW e) = evW e := by unfold headsR endR; rw [hw]; simp
    rw [hh, hw]
    refine ⟨[e.tm], numsP_itoa [e.tm] (by simp [hr.tm]), ?_⟩
    simp [evR, d11, d12, d13, d14, d15, endR]
    exact ev_eq h1.symm hk'.2.1.symm rfl hk'.1.1.symm hk'.1.2.symm hk'.2.2.symm
  · simp only [kindP, h1] at hk
    have hk' : bareP e ∧ e.job = 0 ∧ e.list = [] := by simpa using hk
    have hw : evW e = [wDecay, itoa e.tm] := by unfold evW; rw [h1]; rfl
    have hh : headsR (evW e) = evW e := by unfold headsR endR; rw [hw]; simp
    rw [hh, hw]
    refine ⟨[e.tm], numsP_itoa [e.tm] (by simp [hr.tm]), ?_⟩
    simp [evR, d16, d17, d18, d19, d20, d21, endR]
    exact ev_eq h1.symm hk'.2.1.symm rfl hk'.1.1.symm hk'.1.2.symm hk'.2.2.symm
theorem rdR_evT {e : Ev} (hr : EvR e) (h : okP e) : rdR (evT e) = (e, 0) := by
  obtain ⟨n, h1, h2⟩ := evR_evW hr h
  unfold rdR
  rw [spl_evT h, h1]
  simp only [h2]
  exact if_pos ⟨h, trivial⟩

/-! ### both read the same -/
theorem rng0 : Rng 0 := by unfold Rng; omega
theorem getD_rng {n : List Int} (h : ∀ x ∈ n, Rng x) (i : Nat) : Rng (n.getD i 0) := by
  rw [List.getD_eq_getElem?_getD]
  cases hi : n[i]? with
  | none => exact rng0
  | some x => exact h x (List.mem_of_getElem? hi)
theorem stateN_rng (x : List UInt8) : Rng (stateN x) := by
  unfold stateN Rng
  repeat' split
  all_goals omega
theorem stateR_rng (x : List UInt8) : Rng (stateR x) := by
  unfold stateR Rng
  repeat' split
  all_goals omega
theorem evOf_rng (ws : List (List UInt8)) (n : List Int) (d : Int) (h : ∀ x ∈ n, Rng x) (hd : Rng d) : EvR (evOf ws n d) := by
  have hz : EvR evZ := ⟨rng0, rng0, rng0, rng0, fun x hx => by cases hx⟩
  unfold evOf
  split
  · exact hz
  · split
    · exact hz
    · have hi : ∀ (p : Prop) [Decidable p] (a b : Int), Rng a → Rng b → Rng (if p then a else b) := fun p _ a b ha hb => by
        split
        · exact ha
        · exact hb
      refine ⟨hi _ _ _ rng0 (getD_rng h _), hi _ _ _ (getD_rng h _) (getD_rng h _), hi _ _ _ (getD_rng h _) (hi _ _ _ hd rng0), hi _ _ _ (getD_rng h _) rng0, ?_⟩
      intro x hx
      dsimp only at hx
      split at hx
      · exact h x (List.mem_of_mem_drop hx)
      · cases hx
theorem evR_rng (ws : List (List UInt8)) (n : List Int) (h : ∀ x ∈ n, Rng x) (e : Ev) (he : evR ws n = some e) : EvR e := by
  have h0 : ∀ x ∈ ([] : List Int), Rng x := fun x hx => by cases hx
  have hd : ∀ k, ∀ x ∈ n.drop k, Rng x := fun k x hx => h x (List.mem_of_mem_drop hx)
  unfold evR at he
  repeat' split at he
  all_goals first | (cases he; done) | (injection he with he; subst he; exact ⟨by first | exact rng0 | exact getD_rng h _, by first | exact rng0 | exact getD_rng h _, by first | exact rng0 | exact getD_rng h _ | exact stateR_rng _, by first | exact rng0 | exact getD_rng h _, by first | exact h0 | exact hd _⟩)
theorem rdC_reads (s : List UInt8) : ReadsAs s (rdC s) := by
  by_cases h : ∃ e, EvR e ∧ okP e ∧ evT e = s
  · obtain ⟨e, h1, h2, rfl⟩ := h
    rw [rdC_evT h1 h2]
    exact .inl ⟨rfl, h2, rfl, h1⟩
  · have hn : ∀ e, EvR e → okP e → evT e ≠ s := fun e h1 h2 h3 => h ⟨e, h1, h2, h3⟩
    refine .inr ⟨?_, hn⟩
    unfold rdC
    split
    · rfl
    · rename_i n hc
      split
      · rename_i ho
        refine absurd ho.2 (hn _ (evOf_rng _ _ _ (canons_rng _ _ hc).1 ?_) ho.1)
        unfold endedW
        split
        · exact stateN_rng _
        · exact rng0
      · rfl
theorem rdR_reads (s : List UInt8) : ReadsAs s (rdR s) := by
  by_cases h : ∃ e, EvR e ∧ okP e ∧ evT e = s
  · obtain ⟨e, h1, h2, rfl⟩ := h
    rw [rdR_evT h1 h2]
    exact .inl ⟨rfl, h2, rfl, h1⟩
  · have hn : ∀ e, EvR e → okP e → evT e ≠ s := fun e h1 h2 h3 => h ⟨e, h1, h2, h3⟩
    refine .inr ⟨?_, hn⟩
    unfold rdR
    split
    · rfl
    · rename_i n hc
      split
      · rfl
      · rename_i e he
        split
        · rename_i ho
          exact absurd ho.2 (hn _ (evR_rng _ _ (numsP_rng _ _ hc) e he) ho.1)
        · rfl
theorem rdC_rdR (s : List UInt8) : rdC s = rdR s := reads_one (rdC_reads s) (rdR_reads s)

end Go.Proofs.YtokioddaonknpaaDoor.A
