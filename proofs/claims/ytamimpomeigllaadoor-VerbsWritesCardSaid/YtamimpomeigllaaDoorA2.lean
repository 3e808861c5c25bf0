/- Own text: the world's facts that the library's calls want; a command in memory; 'read' of package verbs. -/
import Derived.Test.YtamimpomeigllaaDoorA1
import Derived.Test.YtamimpomeigllaaDoorShelf
import Derived.Test.YtamimpomeigllaaDoorB2
import Derived.Lib.LaidTab
import Derived.Deep.QuietTactic
import Derived.BigQuiet
namespace Go.Proofs.YtamimpomeigllaaDoor.V
open Go.RowKit Go.Proofs.YtamimpomeigllaaDoorW.PrintWords

/-- What the library's variables hold. -/
structure Env (w : World) : Prop where
  n8 : 8 ≤ w.heap.size
  ml : ∃ m, w.cell? ⟨0, 0, none⟩ = some (.int .i64 m)
  tab : Lib.TabIs Tryd.prog w "internal/strconv.uint64pow10" .u64 Lib.pow10Tab
  syn : ∃ tp p, w.var? Tryd.prog "strconv.ErrSyntax" = some #[.iface tp p]
  rng : ∃ tp p, w.var? Tryd.prog "strconv.ErrRange" = some #[.iface tp p]

theorem var_keep {g : Nat} {w w' : World} {n : String} {cs : Array Value} (hg : Tryd.prog.globalNamed n = some g) (h : w'.heap[g]? = w.heap[g]?) (hv : w.var? Tryd.prog n = some cs) : w'.var? Tryd.prog n = some cs := by
  unfold World.var? at *
  simp only [hg, Option.bind_some] at hv ⊢
  rw [h]; exact hv
theorem gSyn : Tryd.prog.globalNamed "strconv.ErrSyntax" = some 1 := by kernel_rfl
theorem gRng : Tryd.prog.globalNamed "strconv.ErrRange" = some 2 := by kernel_rfl
theorem gTab : Tryd.prog.globalNamed "internal/strconv.uint64pow10" = some 3 := by kernel_rfl
theorem Env.keep {w w' : World} (h : Env w) (hs : w.heap.size ≤ w'.heap.size) (hb : ∀ k, k < 8 → w'.heap[k]? = w.heap[k]?) : Env w' := by
  obtain ⟨m, hm⟩ := h.ml
  obtain ⟨t1, p1, h1⟩ := h.syn
  obtain ⟨t2, p2, h2⟩ := h.rng
  exact ⟨Nat.le_trans h.n8 hs, ⟨m, (World.cell?_of_block (hb 0 (by omega))).trans hm⟩, var_keep gTab (hb 3 (by omega)) h.tab, ⟨t1, p1, var_keep gSyn (hb 1 (by omega)) h1⟩, ⟨t2, p2, var_keep gRng (hb 2 (by omega)) h2⟩⟩
theorem Env.below {w w' : World} (h : Env w) {B : Nat} (hB : 8 ≤ B) (hb : Below B w w') : Env w' := h.keep hb.size (fun k hk => hb.block k (by omega))
theorem Env.grown {w w' : World} (h : Env w) {b : Nat} (hB : 8 ≤ b) (hb : w.grownBy w' (some b)) : Env w' :=
  h.keep hb.size (fun k hk => hb.block k (by have := h.n8; omega) (by intro e; cases e; omega))

/-- A command. -/
structure Cmd where
  kind : Int
  name : ByteArray
  parent : ByteArray
  shares : Int
  nodes : Int
  limit : Int
  job : Int
  ticks : Int
def cells (c : Cmd) : Array Value := #[.int .i64 c.kind, .string c.name, .string c.parent, .int .i64 c.shares, .int .i64 c.nodes, .int .i64 c.limit, .int .i64 c.job, .int .i64 c.ticks]
def IsCmd (w : World) (b : Nat) (c : Cmd) : Prop := w.heap[b]? = some (.cells (cells c) 24 (0, 0))

def setN (c : Cmd) (f : Int) (n : Int) : Cmd :=
  if f = 2 then { c with shares := n } else if f = 3 then { c with nodes := n } else if f = 4 then { c with limit := n } else if f = 5 then { c with job := n } else { c with ticks := n }
def setT (c : Cmd) (f : Int) (s : ByteArray) : Cmd := if f = 0 then { c with name := s } else { c with parent := s }
theorem setN_cells (c : Cmd) (f n : Int) : cells (setN c f n) = (cells c).setIfInBounds (numOff f) (.int .i64 n) := by
  unfold setN numOff
  split
  · rfl
  split
  · rfl
  split
  · rfl
  split
  · rfl
  · rfl


theorem cmd_grown {w w' : World} {b b' : Nat} {c : Cmd} (h : IsCmd w b c) (hg : w.grownBy w' (some b')) (hne : b ≠ b') : IsCmd w' b c :=
  (hg.block b (blk_lt h) (by intro e; cases e; exact hne rfl)).trans h
theorem cmd_below {w w' : World} {b : Nat} {c : Cmd} (h : IsCmd w b c) (hg : Below w.heap.size w w') : IsCmd w' b c :=
  (hg.block b (blk_lt h)).trans h
theorem cmd_set {w : World} {b : Nat} {c c' : Cmd} (h : IsCmd w b c) (i : Nat) (u : Value) (he : cells c' = (cells c).setIfInBounds i u) : IsCmd (w.setCell ⟨b, i, none⟩ u) b c' := by
  have := blk_set h i u
  unfold IsCmd
  rw [this, he]

def atoiV (s : ByteArray) : Int := match Lib.atoiAll s.data.toList with
  | .ok v => v
  | .range => Lib.atoiSat s.data.toList
  | _ => 0
def numB (s : ByteArray) : Bool := match Lib.atoiAll s.data.toList with
  | .ok v => decide (0 ≤ v) && (Lib.itoa v == s.toList)
  | _ => false
def IsT (f : Int) : Prop := f = 0 ∨ f = 1
instance (f : Int) : Decidable (IsT f) := by unfold IsT; infer_instance
def readC (c : Cmd) (f : Int) (s : ByteArray) : Cmd := if IsT f then setT c f s else setN c f (atoiV s)
def readB (f : Int) (s : ByteArray) : Bool := if IsT f then validB s else numB s

def ReadPost (b : Nat) (c : Cmd) (f : Int) (s : ByteArray) (w : World) (e : Ending) (w' : World) : Prop :=
  e = .returned (.bool (readB f s)) ∧ IsCmd w' b (readC c f s) ∧ w.grownBy w' (some b)

theorem text0 (b : Nat) (w : World) : Calls Tryd.prog 23 #[.pointer (some ⟨b, 0, none⟩), .int .i64 0] w fun e w' => e = .returned (.pointer (some ⟨b, 1, none⟩)) ∧ w = w' := text_any b 0 w
theorem text1 (b : Nat) (w : World) : Calls Tryd.prog 23 #[.pointer (some ⟨b, 0, none⟩), .int .i64 1] w fun e w' => e = .returned (.pointer (some ⟨b, 2, none⟩)) ∧ w = w' := text_any b 1 w
theorem textN (b : Nat) (f : Int) (h : ¬ IsT f) (w : World) : Calls Tryd.prog 23 #[.pointer (some ⟨b, 0, none⟩), .int .i64 f] w fun e w' => e = .returned (.pointer none) ∧ w = w' := by
  have := text_any b f w
  unfold IsT at h
  rwa [show textP b f = none from by unfold textP; rw [if_neg (by omega), if_neg (by omega)]] at this

theorem grown_set {w w1 : World} {b : Nat} (h : w.grownBy w1 (some b)) (j : Nat) (u : Value) : w.grownBy (w1.setCell ⟨b, j, none⟩ u) (some b) :=
  ⟨h.os, h.tape, h.output, by simpa [World.setCell] using h.size, fun i hi hne => (Below.heap_setCell w1 ⟨b, j, none⟩ u i (by rintro rfl; exact hne rfl)).trans (h.block i hi hne)⟩
theorem grown_refl (w : World) (r : Option Nat) : w.grownBy w r := ⟨rfl, rfl, rfl, Nat.le_refl _, fun _ _ _ => rfl⟩
theorem grown_below {w w1 w2 : World} {r : Option Nat} (h : w.grownBy w1 r) (k : Below w1.heap.size w1 w2) : w.grownBy w2 r :=
  ⟨k.os.trans h.os, k.tape.trans h.tape, k.output.trans h.output, Nat.le_trans h.size k.size, fun i hi hne => (k.block i (Nat.lt_of_lt_of_le hi h.size)).trans (h.block i hi hne)⟩

set_option maxHeartbeats 1000000 in
theorem read0 (b : Nat) (c : Cmd) (s : ByteArray) (w : World) (hc : IsCmd w b c) :
    Calls Tryd.prog 16 #[.pointer (some ⟨b, 0, none⟩), .int .i64 0, .string s] w (ReadPost b c 0 s w) := by
  have hcell : w.cell? ⟨b, 1, none⟩ = some (.string c.name) := blk_cell hc 1
  have hfz : w.frozen? ⟨b, 1, none⟩ = false := blk_frozen hc 1
  have K := cmd_set (c' := setT c 0 s) hc 1 (.string s) rfl
  have HK := Aside0.mk K
  have HG := Aside0.mk (grown_set (grown_refl w (some b)) 1 (.string s))
  clear K hc
  go_enter Tryd.func16, Tryd.ntmps16
  go_wp2_with (first | (go_at_call 23; refine (text0 _ _).mono ?_; rintro e w1 ⟨rfl, rfl⟩) | (go_at_call 8; refine (valid_any _ _).mono ?_; rintro e w1 ⟨rfl, hd⟩))
  go_ret
  exact ⟨rfl, cmd_below HK.out (Drawn0.below hd), grown_below HG.out (Drawn0.below hd)⟩

end Go.Proofs.YtamimpomeigllaaDoor.V
