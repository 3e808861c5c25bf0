/- Own text: events, their lines, and what a line is read as, in plain Lean. -/
import Derived.Test.YtokioddaonknpaaDoorP1
namespace Go.Proofs.YtokioddaonknpaaDoor.A
open Go.Lib
set_option linter.unusedSimpArgs false

structure Ev where
  kind : Int
  job : Int
  tm : Int
  nodes : Int
  limit : Int
  list : List Int
def evZ : Ev := ⟨0, 0, 0, 0, 0, []⟩
structure EvR (e : Ev) : Prop where mk :: (job : Rng e.job) (tm : Rng e.tm) (nodes : Rng e.nodes) (limit : Rng e.limit) (list : ∀ n ∈ e.list, Rng n)

def wSubmit : List UInt8 := [115, 117, 98, 109, 105, 116]
def wStart : List UInt8 := [115, 116, 97, 114, 116]
def wEnd : List UInt8 := [101, 110, 100]
def wPin : List UInt8 := [112, 105, 110]
def wPass : List UInt8 := [112, 97, 115, 115]
def wTick : List UInt8 := [116, 105, 99, 107]
def wDecay : List UInt8 := [100, 101, 99, 97, 121]
def stateL (n : Int) : List UInt8 :=
  if n = 1 then [112, 101, 110, 100, 105, 110, 103] else if n = 2 then [114, 117, 110, 110, 105, 110, 103] else if n = 3 then [99, 111, 109, 112, 108, 101, 116, 101, 100]
  else if n = 4 then [107, 105, 108, 108, 101, 100] else if n = 5 then [115, 116, 111, 112, 112, 101, 100] else if n = 6 then [100, 114, 111, 112, 112, 101, 100] else []
/-- A word's state. -/
def stateN (l : List UInt8) : Int := if stateL 1 = l then 1 else if stateL 2 = l then 2 else if stateL 3 = l then 3 else if stateL 4 = l then 4 else if stateL 5 = l then 5 else if stateL 6 = l then 6 else 0

def risesP (last : Int) : List Int → Prop
  | [] => True
  | n :: l => last < n ∧ risesP n l
def risesD (last : Int) : (l : List Int) → Decidable (risesP last l)
  | [] => isTrue trivial
  | n :: l => by
    have := risesD n l
    exact inferInstanceAs (Decidable (last < n ∧ risesP n l))
instance (last : Int) (l : List Int) : Decidable (risesP last l) := risesD last l
def nonneg (l : List Int) : Prop := ∀ n ∈ l, 0 ≤ n
instance (l : List Int) : Decidable (nonneg l) := inferInstanceAs (Decidable (∀ n ∈ l, 0 ≤ n))
theorem rises_nonneg : ∀ (l : List Int) (last : Int), -1 ≤ last → risesP last l → nonneg l
  | [], _, _, _ => fun n hn => by cases hn
  | m :: l, last, h, hr => fun n hn => by
    rcases List.mem_cons.1 hn with rfl | hn
    · have := hr.1; omega
    · exact rises_nonneg l m (by have := hr.1; omega) hr.2 n hn

def bareP (e : Ev) : Prop := e.nodes = 0 ∧ e.limit = 0
instance (e : Ev) : Decidable (bareP e) := inferInstanceAs (Decidable (_ ∧ _))
/-- What a kind asks of the fields. -/
def kindP (e : Ev) : Prop :=
  if e.kind = 1 then e.list = []
  else if e.kind = 2 then bareP e ∧ risesP (-1) e.list
  else if e.kind = 3 then (3 ≤ e.nodes ∧ e.nodes ≤ 6) ∧ e.limit = 0 ∧ e.list = []
  else if e.kind = 4 then bareP e ∧ e.list = []
  else if e.kind = 5 then bareP e ∧ e.job = 0 ∧ nonneg e.list
  else if e.kind = 6 ∨ e.kind = 7 then bareP e ∧ e.job = 0 ∧ e.list = []
  else False
instance (e : Ev) : Decidable (kindP e) := by unfold kindP; infer_instance
def okP (e : Ev) : Prop := kindP e ∧ 0 ≤ e.job ∧ 0 ≤ e.tm ∧ 0 ≤ e.nodes ∧ 0 ≤ e.limit
instance (e : Ev) : Decidable (okP e) := inferInstanceAs (Decidable (_ ∧ _))

/-- An event's words. -/
def evW (e : Ev) : List (List UInt8) :=
  if e.kind = 1 then [wSubmit, itoa e.job, itoa e.tm, itoa e.nodes, itoa e.limit]
  else if e.kind = 2 then wStart :: itoa e.job :: itoa e.tm :: e.list.map itoa
  else if e.kind = 3 then [wEnd, itoa e.job, itoa e.tm, stateL e.nodes]
  else if e.kind = 4 then [wPin, itoa e.job, itoa e.tm]
  else if e.kind = 5 then wPass :: itoa e.tm :: e.list.map itoa
  else if e.kind = 6 then [wTick, itoa e.tm]
  else if e.kind = 7 then [wDecay, itoa e.tm]
  else []
def evT (e : Ev) : List UInt8 := join (evW e) [32]
/-- What Event answers. -/
def evA (e : Ev) : List UInt8 × Int := if okP e then (evT e, 0) else ([], 90)

theorem okP_kind {e : Ev} (h : okP e) : e.kind = 1 ∨ e.kind = 2 ∨ e.kind = 3 ∨ e.kind = 4 ∨ e.kind = 5 ∨ e.kind = 6 ∨ e.kind = 7 := by
  have := h.1
  unfold kindP at this
  split at this
  · omega
  · split at this
    · omega
    · split at this
      · omega
      · split at this
        · omega
        · split at this
          · omega
          · split at this
            · omega
            · exact this.elim

theorem stateL_no32 (n : Int) : ∀ c ∈ stateL n, c ≠ 32 := by
  intro c hc
  unfold stateL at hc
  split at hc
  · simp at hc; rcases hc with rfl | rfl | rfl | rfl | rfl | rfl | rfl <;> decide
  · split at hc
    · simp at hc; rcases hc with rfl | rfl | rfl | rfl | rfl | rfl | rfl <;> decide
    · split at hc
      · simp at hc; rcases hc with rfl | rfl | rfl | rfl | rfl | rfl | rfl | rfl | rfl <;> decide
      · split at hc
        · simp at hc; rcases hc with rfl | rfl | rfl | rfl | rfl | rfl <;> decide
        · split at hc
          · simp at hc; rcases hc with rfl | rfl | rfl | rfl | rfl | rfl | rfl <;> decide
          · split at hc
            · simp at hc; rcases hc with rfl | rfl | rfl | rfl | rfl | rfl | rfl <;> decide
            · cases hc
theorem stateN_L (n : Int) (h : 1 ≤ n ∧ n ≤ 6) : stateN (stateL n) = n := by
  have : n = 1 ∨ n = 2 ∨ n = 3 ∨ n = 4 ∨ n = 5 ∨ n = 6 := by omega
  rcases this with rfl | rfl | rfl | rfl | rfl | rfl <;> decide

theorem evW_no32 (e : Ev) : ∀ x ∈ evW e, ∀ c ∈ x, c ≠ 32 := by
  have hn : ∀ l : List Int, ∀ x ∈ l.map itoa, ∀ c ∈ x, c ≠ 32 := by
    intro l x hx
    obtain ⟨n, _, rfl⟩ := List.mem_map.1 hx
    exact itoa_no32 n
  have w1 : ∀ c ∈ wSubmit, c ≠ 32 := by decide
  have w2 : ∀ c ∈ wStart, c ≠ 32 := by decide
  have w3 : ∀ c ∈ wEnd, c ≠ 32 := by decide
  have w4 : ∀ c ∈ wPin, c ≠ 32 := by decide
  have w5 : ∀ c ∈ wPass, c ≠ 32 := by decide
  have w6 : ∀ c ∈ wTick, c ≠ 32 := by decide
  have w7 : ∀ c ∈ wDecay, c ≠ 32 := by decide
  intro x hx
  unfold evW at hx
  split at hx
  · simp only [List.mem_cons, List.not_mem_nil, or_false] at hx
    rcases hx with rfl | rfl | rfl | rfl | rfl
    · exact w1
    all_goals exact itoa_no32 _
  · split at hx
    · rcases List.mem_cons.1 hx with rfl | hx
      · exact w2
      · rcases List.mem_cons.1 hx with rfl | hx
        · exact itoa_no32 _
        · rcases List.mem_cons.1 hx with rfl | hx
          · exact itoa_no32 _
          · exact hn _ _ hx
    · split at hx
      · simp only [List.mem_cons, List.not_mem_nil, or_false] at hx
        rcases hx with rfl | rfl | rfl | rfl
        · exact w3
        · exact itoa_no32 _
        · exact itoa_no32 _
        · exact stateL_no32 _
      · split at hx
        · simp only [List.mem_cons, List.not_mem_nil, or_false] at hx
          rcases hx with rfl | rfl | rfl
          · exact w4
          · exact itoa_no32 _
          · exact itoa_no32 _
        · split at hx
          · rcases List.mem_cons.1 hx with rfl | hx
            · exact w5
            · rcases List.mem_cons.1 hx with rfl | hx
              · exact itoa_no32 _
              · exact hn _ _ hx
          · split at hx
            · simp only [List.mem_cons, List.not_mem_nil, or_false] at hx
              rcases hx with rfl | rfl
              · exact w6
              · exact itoa_no32 _
            · split at hx
              · simp only [List.mem_cons, List.not_mem_nil, or_false] at hx
                rcases hx with rfl | rfl
                · exact w7
                · exact itoa_no32 _
              · cases hx
theorem evW_ne {e : Ev} (h : okP e) : evW e ≠ [] := by
  unfold evW
  rcases okP_kind h with h | h | h | h | h | h | h <;> rw [h] <;> simp
theorem spl_evT {e : Ev} (h : okP e) : splA [] (evT e) = evW e := splA_join _ (evW_ne h) (evW_no32 e)

/-! ### reading -/
def kindOf (x : List UInt8) : Int := if x = wSubmit then 1 else if x = wStart then 2 else if x = wEnd then 3 else if x = wPin then 4 else if x = wPass then 5 else if x = wTick then 6 else if x = wDecay then 7 else 0
def wantOf (k : Int) : Nat := if k = 1 then 4 else if k = 5 ∨ k = 6 ∨ k = 7 then 1 else 2
/-- One of words, as far as they may be one. -/
def evOf (ws : List (List UInt8)) (n : List Int) (ended : Int) : Ev :=
  if ws = [] then evZ else if n.length < wantOf (kindOf (ws.getD 0 [])) then evZ else
  ⟨kindOf (ws.getD 0 []), if wantOf (kindOf (ws.getD 0 [])) = 1 then 0 else n.getD 0 0, if wantOf (kindOf (ws.getD 0 [])) = 1 then n.getD 0 0 else n.getD 1 0,
   if kindOf (ws.getD 0 []) = 1 then n.getD 2 0 else if kindOf (ws.getD 0 []) = 3 then ended else 0, if kindOf (ws.getD 0 []) = 1 then n.getD 3 0 else 0,
   if kindOf (ws.getD 0 []) = 2 ∨ kindOf (ws.getD 0 []) = 5 then n.drop (wantOf (kindOf (ws.getD 0 []))) else []⟩
def lastW (ws : List (List UInt8)) : List UInt8 := ws.getD (ws.length - 1) []
def headsW (ws : List (List UInt8)) : List (List UInt8) := if ws.getD 0 [] = wEnd then ws.take (ws.length - 1) else ws
def endedW (ws : List (List UInt8)) : Int := if ws.getD 0 [] = wEnd then stateN (lastW ws) else 0
/-- What ReadEvent answers. -/
def rdC (s : List UInt8) : Ev × Int :=
  match canons (headsW (splA [] s)).tail with
  | none => (evZ, 90)
  | some n => if okP (evOf (headsW (splA [] s)) n (endedW (splA [] s))) ∧ evT (evOf (headsW (splA [] s)) n (endedW (splA [] s))) = s then (evOf (headsW (splA [] s)) n (endedW (splA [] s)), 0) else (evZ, 90)
/-- A line's reading is all that a reader may answer: the event whose line it is, or none. -/
def ReadsAs (s : List UInt8) (r : Ev × Int) : Prop := (r.2 = 0 ∧ okP r.1 ∧ evT r.1 = s ∧ EvR r.1) ∨ (r = (evZ, 90) ∧ ∀ e, EvR e → okP e → evT e ≠ s)

theorem ev_eq {a b : Ev} (h1 : a.kind = b.kind) (h2 : a.job = b.job) (h3 : a.tm = b.tm) (h4 : a.nodes = b.nodes) (h5 : a.limit = b.limit) (h6 : a.list = b.list) : a = b := by
  cases a; cases b; simp_all

theorem evOf_evW {e : Ev} (hr : EvR e) (h : okP e) : ∃ n, canons (headsW (evW e)).tail = some n ∧ evOf (headsW (evW e)) n (endedW (evW e)) = e := by
  have hk := h.1
  rcases okP_kind h with h1 | h1 | h1 | h1 | h1 | h1 | h1
  · simp only [kindP, h1] at hk
    refine ⟨[e.job, e.tm, e.nodes, e.limit], ?_, ?_⟩
    · simp only [evW, h1, headsW]
      exact canons_itoa [e.job, e.tm, e.nodes, e.limit] (by simp [hr.job, hr.tm, hr.nodes, hr.limit])
    · simp only [evW, h1, headsW]
      exact ev_eq h1.symm rfl rfl rfl rfl (show [] = e.list from Eq.symm hk)
  · simp only [kindP, h1] at hk
    refine ⟨e.job :: e.tm :: e.list, ?_, ?_⟩
    · simp only [evW, h1, headsW]
      exact canons_itoa (e.job :: e.tm :: e.list) (by intro n hn; simp at hn; rcases hn with rfl | rfl | hn; exact hr.job; exact hr.tm; exact hr.list _ hn)
    · simp only [evW, h1, headsW]
      have hb : bareP e := hk.1
      have hl : wantOf (kindOf wStart) = 2 := by decide
      simp [evOf, wantOf]
      exact ev_eq h1.symm rfl rfl hb.1.symm hb.2.symm rfl
  · simp only [kindP, h1] at hk
    refine ⟨[e.job, e.tm], ?_, ?_⟩
    · simp only [evW, h1, headsW]
      exact canons_itoa [e.job, e.tm] (by simp [hr.job, hr.tm])
    · simp only [evW, h1, headsW, endedW]
      have hk' : (3 ≤ e.nodes ∧ e.nodes ≤ 6) ∧ e.limit = 0 ∧ e.list = [] := hk
      simp [evOf, wantOf, lastW]
      exact ev_eq h1.symm rfl rfl (stateN_L _ (by omega)) hk'.2.1.symm hk'.2.2.symm
  · simp only [kindP, h1] at hk
    refine ⟨[e.job, e.tm], ?_, ?_⟩
    · simp only [evW, h1, headsW]
      exact canons_itoa [e.job, e.tm] (by simp [hr.job, hr.tm])
    · simp only [evW, h1, headsW]
      have hk' : bareP e ∧ e.list = [] := hk
      simp [evOf, wantOf]
      exact ev_eq h1.symm rfl rfl hk'.1.1.symm hk'.1.2.symm hk'.2.symm
  · simp only [kindP, h1] at hk
    refine ⟨e.tm :: e.list, ?_, ?_⟩
    · simp only [evW, h1, headsW]
      exact canons_itoa (e.tm :: e.list) (by intro n hn; simp at hn; rcases hn with rfl | hn; exact hr.tm; exact hr.list _ hn)
    · simp only [evW, h1, headsW]
      have hk' : bareP e ∧ e.job = 0 ∧ nonneg e.list := hk
      simp [evOf, wantOf]
      exact ev_eq h1.symm hk'.2.1.symm rfl hk'.1.1.symm hk'.1.2.symm rfl
  · simp only [kindP, h1] at hk
    refine ⟨[e.tm], ?_, ?_⟩
    · simp only [evW, h1, headsW]
      exact canons_itoa [e.tm] (by simp [hr.tm])
    · simp only [evW, h1, headsW]
      have hk' : bareP e ∧ e.job = 0 ∧ e.list = [] := by simpa using hk
      simp [evOf, wantOf]
      exact ev_eq h1.symm hk'.2.1.symm rfl hk'.1.1.symm hk'.1.2.symm hk'.2.2.symm
  · simp only [kindP, h1] at hk
    refine ⟨[e.tm], ?_, ?_⟩
    · simp only [evW, h1, headsW]
      exact canons_itoa [e.tm] (by simp [hr.tm])
    · simp only [evW, h1, headsW]
      have hk' : bareP e ∧ e.job = 0 ∧ e.list = [] := by simpa using hk
      simp [evOf, wantOf]
      exact ev_eq h1.symm hk'.2.1.symm rfl hk'.1.1.symm hk'.1.2.symm hk'.2.2.symm
theorem rdC_evT {e : Ev} (hr : EvR e) (h : okP e) : rdC (evT e) = (e, 0) := by
  obtain ⟨n, h1, h2⟩ := evOf_evW hr h
  unfold rdC
  rw [spl_evT h, h1]
  simp only [h2]
  exact if_pos ⟨h, trivial⟩
theorem evT_inj {a b : Ev} (ha : EvR a) (hb : EvR b) (oa : okP a) (ob : okP b) (h : evT a = evT b) : a = b := by
  have := rdC_evT ha oa
  rw [h, rdC_evT hb ob] at this
  injection this with h _
  exact h.symm
theorem reads_one {s : List UInt8} {r r' : Ev × Int} (h : ReadsAs s r) (h' : ReadsAs s r') : r = r' := by
  rcases h with ⟨e, o, t, k⟩ | ⟨e, n⟩
  · rcases h' with ⟨e', o', t', k'⟩ | ⟨e', n'⟩
    · exact Prod.ext (evT_inj k k' o o' (t.trans t'.symm)) (e.trans e'.symm)
    · exact absurd t (n' _ k o)
  · rcases h' with ⟨e', o', t', k'⟩ | ⟨e', n'⟩
    · exact absurd t' (n _ k' o')
    · rw [e, e']

end Go.Proofs.YtokioddaonknpaaDoor.A
