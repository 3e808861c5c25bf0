/- Own text: verbs.line and verbs.Print. -/
import Derived.Test.YtamimpomeigllaaDoorA6
import Derived.Lib.Join
import Derived.Lib.ItoaLen
namespace Go.Proofs.YtamimpomeigllaaDoor.V
open Go.RowKit Go.Proofs.YtamimpomeigllaaDoorW.PrintWords Go.Proofs.YtamimpomeigllaaDoor.PVerbsReads

def joinS (l : List ByteArray) : ByteArray := ⟨(Lib.join (l.map (·.data.toList)) [32]).toArray⟩

theorem line_any (sv : Value) (acc : List ByteArray) (B : Nat) (w : World) (h : Kd.R Kd.string 9 w B (fun _ => True) sv acc) (hn : acc.length ≤ 1000) (hl : (Lib.join (acc.map (·.data.toList)) [32]).length ≤ 100000) :
    Calls Tryd.prog 26 #[sv] w fun e w' => e = .returned (.string (joinS acc)) ∧ Below w.heap.size w w' := by
  have ho := Kd.own_of_R h
  rcases Nat.eq_zero_or_pos acc.length with h0 | h0
  · obtain ⟨A, c, rfl⟩ := own_slice ho
    have hacc : acc = [] := List.length_eq_zero_iff.1 h0
    subst hacc
    have := Tryd.strings_Join_none A c ⟨#[32]⟩ w
    clear h ho
    simp only [List.length_nil]
    go_enter Tryd.func26, Tryd.ntmps26
    go_wp2_with (go_at_call 31; refine (Tryd.strings_Join_none _ _ _ _).mono ?_; rintro e w1 ⟨rfl, rfl⟩)
    go_ret
    exact ⟨rfl, Below.refl _ _⟩
  · obtain ⟨g, cap, rfl, _, hg, _⟩ := Kd.R_form h h0
    obtain ⟨A, c, he, hcap, hC⟩ := Kd.R_reads h
    injection he with e1 e2 e3
    subst e1 e3
    have hcells : ∀ (j : Nat) x, acc[j]? = some x → w.cell? ⟨g, 0 + j, none⟩ = some (.string x) := by
      intro j x hx
      obtain ⟨hl1, hl2⟩ := List.getElem?_eq_some_iff.1 hx
      obtain ⟨ad, e, hc⟩ := (Kd.reads_of_C (d := (⟨#[]⟩ : ByteArray)) hC).2.2 h0
      obtain rfl := Option.some.inj e
      have := hc j hl1
      rw [add_plain, List.getD_eq_getElem?_getD, hx] at this
      rw [Nat.zero_add]
      exact this
    have HC := Aside0.mk hcells
    have HL := Aside0.mk hl
    clear h ho hcells hl hC
    go_enter Tryd.func26, Tryd.ntmps26
    go_wp2_with (go_at_call 31; refine (Tryd.strings_Join g 0 cap acc ⟨#[32]⟩ _ HC.out hg (by omega) hcap (by have := HL.out; show (Lib.join (acc.map (·.data.toList)) [32]).length ≤ _; omega)).mono ?_; rintro e w1 ⟨rfl, hb⟩)
    go_ret
    exact ⟨rfl, hb⟩

def fieldS (c : Cmd) (f : Int) : ByteArray := if IsT f then getT c f else ⟨(Lib.itoa (getN c f)).toArray⟩
def wordsF (c : Cmd) (fs : List Int) : List ByteArray := fs.map (fieldS c)
def wordsOf (c : Cmd) : List S39 → List ByteArray
  | [] => []
  | v :: vs => if v.f0 = c.kind then (v.f1 :: wordsF c v.f2) ++ wordsOf c vs else wordsOf c vs
def printP (c : Cmd) : ByteArray × Int := if checkP c = 0 then (joinS (wordsOf c vt), 0) else (⟨#[]⟩, checkP c)
theorem wordsOf_no (c : Cmd) (k : Nat) (hk : k < 13) (h : (vat k).f0 ≠ c.kind) : wordsOf c (vt.drop k) = wordsOf c (vt.drop (k + 1)) := by
  rw [vt_drop k hk, wordsOf, if_neg h]
theorem wordsOf_yes (c : Cmd) (k : Nat) (hk : k < 13) (h : (vat k).f0 = c.kind) : wordsOf c (vt.drop k) = ((vat k).f1 :: wordsF c (vat k).f2) ++ wordsOf c (vt.drop (k + 1)) := by
  rw [vt_drop k hk, wordsOf, if_pos h]
theorem wordsF_step (c : Cmd) (fs : List Int) (j : Nat) (hj : j < fs.length) : wordsF c (fs.drop j) = fieldS c (fs.getD j 0) :: wordsF c (fs.drop (j + 1)) := by
  rw [List.drop_eq_getElem_cons hj, List.getD_eq_getElem?_getD, List.getElem?_eq_getElem hj]
  rfl

theorem vat_kind (k : Nat) (hk : k < 13) : (vat k).f0 = (k : Int) + 1 := by
  have : ∀ k : Fin 13, (vat k.val).f0 = (k.val : Int) + 1 := by decide
  exact this ⟨k, hk⟩
theorem vat_word (k : Nat) (hk : k < 13) : (vat k).f1.size ≤ 32 := by
  have : ∀ k : Fin 13, (vat k.val).f1.size ≤ 32 := by decide
  exact this ⟨k, hk⟩
theorem checkP_at (c : Cmd) (k : Nat) (hk : k < 13) (h : (vat k).f0 = c.kind) (j : Nat) (hj : j ≤ k) : checkP c = checkV c (vt.drop j) := by
  induction j with
  | zero => rfl
  | succ j ih =>
    rw [ih (by omega), checkV_no c j (by omega)]
    rw [vat_kind j (by omega)]
    rw [vat_kind k hk] at h
    omega
theorem checkF_ok (c : Cmd) (fs : List Int) : ∀ o, checkF c o fs = 0 → ∀ f ∈ fs, IsT f → validB (getT c f) = true := by
  induction fs with
  | nil => intro o _ f hf; cases hf
  | cons g fs ih =>
    intro o h f hf hT
    rw [checkF] at h
    split at h
    · rename_i hg
      split at h
      · rename_i hv
        rcases List.mem_cons.1 hf with rfl | hf
        · exact hv
        · exact ih _ h f hf hT
      · cases h
    · rename_i hg
      split at h
      · cases h
      · rcases List.mem_cons.1 hf with rfl | hf
        · exact absurd hT hg
        · exact ih _ h f hf hT
theorem validB_size {s : ByteArray} (h : validB s = true) : s.size ≤ 32 := by
  unfold validB at h
  simp only [Bool.and_eq_true, decide_eq_true_eq] at h
  exact h.1.2
structure Wf (c : Cmd) : Prop where mk :: (out : ∀ f, -9223372036854775808 ≤ getN c f ∧ getN c f ≤ 9223372036854775807)
theorem fieldS_size (c : Cmd) (hc : Wf c) (f : Int) (h : IsT f → validB (getT c f) = true) : (fieldS c f).size ≤ 32 := by
  unfold fieldS
  by_cases hf : IsT f
  · rw [if_pos hf]; exact validB_size (h hf)
  · rw [if_neg hf]
    have := Lib.itoa_length_le (getN c f) (hc.out f).1 (hc.out f).2
    show (Lib.itoa (getN c f)).toArray.size ≤ 32
    simp; omega
theorem join_len (l : List ByteArray) (h : ∀ x ∈ l, x.size ≤ 32) : (Lib.join (l.map (·.data.toList)) [32]).length ≤ 33 * l.length := by
  cases l with
  | nil => simp [Lib.join_nil]
  | cons x r =>
    rw [List.map_cons, Lib.join_cons]
    have hx := h x List.mem_cons_self
    have hr : ∀ r : List ByteArray, (∀ y ∈ r, y.size ≤ 32) → (Lib.joinTail [32] (r.map (·.data.toList))).length ≤ 33 * r.length := by
      intro r
      induction r with
      | nil => intro _; simp [Lib.joinTail]
      | cons y r ih =>
        intro hy
        have h1 := ih (fun z hz => hy z (List.mem_cons_of_mem _ hz))
        have h2 := hy y List.mem_cons_self
        have h3 : y.data.toList.length = y.size := data_length y
        simp only [Lib.joinTail, List.map_cons, List.flatten_cons, List.length_append, List.length_cons, List.length_nil] at h1 ⊢
        omega
    have h1 := hr r (fun y hy => h y (List.mem_cons_of_mem _ hy))
    have h3 : x.data.toList.length = x.size := data_length x
    rw [List.length_append, List.length_cons]
    omega

end Go.Proofs.YtamimpomeigllaaDoor.V
