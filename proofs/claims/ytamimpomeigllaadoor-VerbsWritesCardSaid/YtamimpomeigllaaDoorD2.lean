/- Own text: the reference's Check: it comes to what verbs.Check comes to. -/
import Derived.Test.YtamimpomeigllaaDoorD1
namespace Go.Proofs.YtamimpomeigllaaDoor.V
set_option linter.unusedSimpArgs false
open Go.RowKit Go.Proofs.YtamimpomeigllaaDoorW.PrintWords Go.Proofs.YtamimpomeigllaaDoor.PVerbsReads

def rchkF (rest : Cmd) : List Int → Int
  | [] => if eqC rest zeroC = true then 0 else 84
  | f :: fs => if IsT f then (if validB (getT rest f) = true then rchkF (setT rest f ⟨#[]⟩) fs else 84) else (if getN rest f < 0 then 84 else rchkF (setN rest f 0) fs)
def k0 (c : Cmd) : Cmd := ⟨0, c.name, c.parent, c.shares, c.nodes, c.limit, c.job, c.ticks⟩

theorem eqC_iff (a b : Cmd) : eqC a b = true ↔ a.kind = b.kind ∧ a.name = b.name ∧ a.parent = b.parent ∧ a.shares = b.shares ∧ a.nodes = b.nodes ∧ a.limit = b.limit ∧ a.job = b.job ∧ a.ticks = b.ticks := by
  have h : ∀ x y : ByteArray, (x.toList == y.toList) = true ↔ x = y := fun x y => ⟨fun h => toList_inj (by simpa using h), fun h => by rw [h]; simp⟩
  unfold eqC
  simp only [Bool.and_eq_true, beq_iff_eq, h]
theorem ifP {p q : Prop} [Decidable p] [Decidable q] (h : p ↔ q) : (if p then (0 : Int) else 84) = if q then 0 else 84 := by
  by_cases hp : p
  · rw [if_pos hp, if_pos (h.1 hp)]
  · rw [if_neg hp, if_neg (fun hq => hp (h.2 hq))]

theorem chkE (c : Cmd) : checkF c (kc c.kind) [] = rchkF (k0 c) [] := by
  simp only [checkF, rchkF]
  refine ifP ?_
  rw [eqC_iff, eqC_iff]
  simp only [kc, k0, zeroC]
  constructor <;> (rintro ⟨h1, h2, h3, h4, h5, h6, h7, h8⟩; simp_all)

theorem ifA {p : Prop} [Decidable p] {a b : Int} (h : a = b) : (if p then a else 84) = if p then b else 84 := by rw [h]
theorem ifB {p : Prop} [Decidable p] {a b : Int} (h : a = b) : (if p then 84 else a) = if p then 84 else b := by rw [h]
theorem chk034 (c : Cmd) : checkF c (kc c.kind) [0, 3, 4] = rchkF (k0 c) [0, 3, 4] := by
  simp only [checkF, rchkF]
  rw [if_pos (show IsT 0 by decide), if_pos (show IsT 0 by decide)]
  refine ifA ?_
  rw [if_neg (show ¬ IsT 3 by decide), if_neg (show ¬ IsT 3 by decide)]
  refine ifB ?_
  rw [if_neg (show ¬ IsT 4 by decide), if_neg (show ¬ IsT 4 by decide)]
  refine ifB ?_
  refine ifP ?_
  rw [eqC_iff, eqC_iff]
  simp [kc, k0, zeroC, setT, setN, getT, getN]
  try simp only [@eq_comm Int 0, @eq_comm ByteArray ⟨#[]⟩]
  try (constructor <;> (intro h; simp_all))
theorem chk5 (c : Cmd) : checkF c (kc c.kind) [5] = rchkF (k0 c) [5] := by
  simp only [checkF, rchkF]
  rw [if_neg (show ¬ IsT 5 by decide), if_neg (show ¬ IsT 5 by decide)]
  refine ifB ?_
  refine ifP ?_
  rw [eqC_iff, eqC_iff]
  simp [kc, k0, zeroC, setT, setN, getT, getN]
  try simp only [@eq_comm Int 0, @eq_comm ByteArray ⟨#[]⟩]
  try (constructor <;> (intro h; simp_all))
theorem chk6 (c : Cmd) : checkF c (kc c.kind) [6] = rchkF (k0 c) [6] := by
  simp only [checkF, rchkF]
  rw [if_neg (show ¬ IsT 6 by decide), if_neg (show ¬ IsT 6 by decide)]
  refine ifB ?_
  refine ifP ?_
  rw [eqC_iff, eqC_iff]
  simp [kc, k0, zeroC, setT, setN, getT, getN]
  try simp only [@eq_comm Int 0, @eq_comm ByteArray ⟨#[]⟩]
  try (constructor <;> (intro h; simp_all))
theorem chk012 (c : Cmd) : checkF c (kc c.kind) [0, 1, 2] = rchkF (k0 c) [0, 1, 2] := by
  simp only [checkF, rchkF]
  rw [if_pos (show IsT 0 by decide), if_pos (show IsT 0 by decide)]
  refine ifA ?_
  rw [if_pos (show IsT 1 by decide), if_pos (show IsT 1 by decide)]
  refine ifA ?_
  rw [if_neg (show ¬ IsT 2 by decide), if_neg (show ¬ IsT 2 by decide)]
  refine ifB ?_
  refine ifP ?_
  rw [eqC_iff, eqC_iff]
  simp [kc, k0, zeroC, setT, setN, getT, getN]
  try simp only [@eq_comm Int 0, @eq_comm ByteArray ⟨#[]⟩]
  try (constructor <;> (intro h; simp_all))
theorem chk02 (c : Cmd) : checkF c (kc c.kind) [0, 2] = rchkF (k0 c) [0, 2] := by
  simp only [checkF, rchkF]
  rw [if_pos (show IsT 0 by decide), if_pos (show IsT 0 by decide)]
  refine ifA ?_
  rw [if_neg (show ¬ IsT 2 by decide), if_neg (show ¬ IsT 2 by decide)]
  refine ifB ?_
  refine ifP ?_
  rw [eqC_iff, eqC_iff]
  simp [kc, k0, zeroC, setT, setN, getT, getN]
  try simp only [@eq_comm Int 0, @eq_comm ByteArray ⟨#[]⟩]
  try (constructor <;> (intro h; simp_all))
theorem chk01 (c : Cmd) : checkF c (kc c.kind) [0, 1] = rchkF (k0 c) [0, 1] := by
  simp only [checkF, rchkF]
  rw [if_pos (show IsT 0 by decide), if_pos (show IsT 0 by decide)]
  refine ifA ?_
  rw [if_pos (show IsT 1 by decide), if_pos (show IsT 1 by decide)]
  refine ifA ?_
  refine ifP ?_
  rw [eqC_iff, eqC_iff]
  simp [kc, k0, zeroC, setT, setN, getT, getN]
  try simp only [@eq_comm Int 0, @eq_comm ByteArray ⟨#[]⟩]
  try (constructor <;> (intro h; simp_all))
theorem chk0 (c : Cmd) : checkF c (kc c.kind) [0] = rchkF (k0 c) [0] := by
  simp only [checkF, rchkF]
  rw [if_pos (show IsT 0 by decide), if_pos (show IsT 0 by decide)]
  refine ifA ?_
  refine ifP ?_
  rw [eqC_iff, eqC_iff]
  simp [kc, k0, zeroC, setT, setN, getT, getN]
  try simp only [@eq_comm Int 0, @eq_comm ByteArray ⟨#[]⟩]
  try (constructor <;> (intro h; simp_all))

/-- A kind that there is. -/
theorem checkP_kind (c : Cmd) (k : Nat) (hk : k < 13) (h : c.kind = (k : Int) + 1) : checkP c = rchkF (k0 c) (vat k).f2 := by
  have hv : (vat k).f0 = c.kind := by rw [vat_kind k hk, h]
  rw [checkP_at c k hk hv k (Nat.le_refl _), checkV_yes c k hk hv]
  have : ∀ fl, fl ∈ [[0, 3, 4], [5], [6], [0, 1, 2], [0, 2], [0, 1], [0], ([] : List Int)] → checkF c (kc c.kind) fl = rchkF (k0 c) fl := by
    intro fl hfl
    simp only [List.mem_cons, List.not_mem_nil, or_false] at hfl
    rcases hfl with rfl | rfl | rfl | rfl | rfl | rfl | rfl | rfl
    · exact chk034 c
    · exact chk5 c
    · exact chk6 c
    · exact chk012 c
    · exact chk02 c
    · exact chk01 c
    · exact chk0 c
    · exact chkE c
  refine this _ ?_
  have : ∀ k : Fin 13, (vat k.val).f2 ∈ [[0, 3, 4], [5], [6], [0, 1, 2], [0, 2], [0, 1], [0], ([] : List Int)] := by decide
  exact this ⟨k, hk⟩
theorem checkP_nokind (c : Cmd) (h : ∀ k : Nat, k < 13 → c.kind ≠ (k : Int) + 1) : checkP c = 84 := by
  have : ∀ j, j ≤ 13 → checkP c = checkV c (vt.drop j) := by
    intro j
    induction j with
    | zero => intro _; rfl
    | succ j ih =>
      intro hj
      rw [ih (by omega), checkV_no c j (by omega) (by rw [vat_kind j (by omega)]; exact fun e => h j (by omega) e.symm)]
  rw [this 13 (Nat.le_refl _)]
  rfl
theorem rchkF_two (fs : List Int) : ∀ r, rchkF r fs = 0 ∨ rchkF r fs = 84 := by
  induction fs with
  | nil => intro r; rw [rchkF]; split <;> simp
  | cons f fs ih =>
    intro r
    rw [rchkF]
    split
    · split
      · exact ih _
      · exact .inr rfl
    · split
      · exact .inr rfl
      · exact ih _
theorem checkP_two (c : Cmd) : checkP c = 0 ∨ checkP c = 84 := by
  by_cases h : ∃ k : Nat, k < 13 ∧ c.kind = (k : Int) + 1
  · obtain ⟨k, hk, e⟩ := h
    rw [checkP_kind c k hk e]
    exact rchkF_two _ _
  · exact .inr (checkP_nokind c (fun k hk e => h ⟨k, hk, e⟩))

end Go.Proofs.YtamimpomeigllaaDoor.V
