/- Own text: the table of the verbs; what verbs.Parse comes to. -/
import Derived.Test.YtamimpomeigllaaDoorA3
namespace Go.Proofs.YtamimpomeigllaaDoor.V
open Go.RowKit Go.Proofs.YtamimpomeigllaaDoorW.PrintWords Go.Proofs.YtamimpomeigllaaDoor.PVerbsReads

def vt : List S39 := [⟨1, ⟨#[115, 117, 98, 109, 105, 116]⟩, [0, 3, 4]⟩, ⟨2, ⟨#[99, 97, 110, 99, 101, 108]⟩, [5]⟩, ⟨3, ⟨#[99, 111, 109, 112, 108, 101, 116, 101]⟩, [5]⟩, ⟨4, ⟨#[116, 105, 99, 107]⟩, [6]⟩, ⟨5, ⟨#[97, 99, 99, 111, 117, 110, 116]⟩, [0, 1, 2]⟩, ⟨6, ⟨#[115, 104, 97, 114, 101, 115]⟩, [0, 2]⟩, ⟨7, ⟨#[109, 111, 118, 101]⟩, [0, 1]⟩, ⟨8, ⟨#[99, 108, 111, 115, 101]⟩, [0]⟩, ⟨9, ⟨#[106, 111, 98]⟩, [5]⟩, ⟨10, ⟨#[113, 117, 101, 117, 101]⟩, []⟩, ⟨11, ⟨#[117, 115, 97, 103, 101]⟩, [0]⟩, ⟨12, ⟨#[110, 111, 100, 101, 115]⟩, []⟩, ⟨13, ⟨#[99, 111, 110, 102, 105, 103]⟩, []⟩]
theorem vt_f : verbs_verbs.f = some vt := rfl
theorem vt_len : vt.length = 13 := rfl

/-- The table of the verbs lies at block g. -/
structure VT (w : World) (g : Nat) : Prop where mk :: (out : Kd.C k39 w (some ⟨g, 0, none⟩) 13 vt)
theorem VT.below {w w' : World} {g : Nat} (h : VT w g) (hb : Below w.heap.size w w') : VT w' g := ⟨Kd.C_below h.out hb⟩
def vat (i : Nat) : S39 := vt.getD i z39

theorem VT.at_ {w : World} {g : Nat} (h : VT w g) (i : Nat) (hi : i < 13) : ∃ A c, w.cell? ⟨g, i * 3, none⟩ = some (.int .i64 (vat i).f0) ∧ w.cell? ⟨g, i * 3 + 1, none⟩ = some (.string (vat i).f1) ∧ w.cell? ⟨g, i * 3 + 2, none⟩ = some (.slice A (vat i).f2.length c) ∧ (vat i).f2.length ≤ c ∧ ReadsInt w .i64 A (vat i).f2.length (vat i).f2 := by
  obtain ⟨ad, A2, c2, had, h0, h1, h2, h3, h4⟩ := at_T39 h.out (i : Int) (by omega) (by omega)
  obtain rfl := Option.some.inj had
  rw [Int.toNat_natCast, add_plain] at h0 h1 h2
  have e : rd_T39 vt (i : Int) = vat i := by unfold rd_T39 vat; rw [Int.toNat_natCast]
  rw [e] at h0 h1 h2 h3 h4
  exact ⟨A2, c2, h0, h1, h2, h3, readsInt_of.2 (Kd.reads_of_C h4)⟩

theorem verbs_any (w : World) : Calls Tryd.prog 15 #[] w fun e w' => ∃ g cap, e = .returned (.slice (some ⟨g, 0, none⟩) 13 cap) ∧ 13 ≤ cap ∧ w.heap.size ≤ g ∧ VT w' g ∧ Below w.heap.size w w' := by
  refine (verbs_verbs.calls vt w vt_f).mono ?_
  rintro e w' ⟨v, rfl, hN, hb⟩
  obtain ⟨g, cap, rfl, hg, _⟩ := Kd.N_form hN (by decide)
  obtain ⟨A, c, he, hc, hC⟩ := Kd.N_reads hN
  injection he with h1 h2 h3
  subst h1 h3
  exact ⟨g, cap, rfl, hc, hg, ⟨hC⟩, hb⟩

def zeroC : Cmd := ⟨0, ⟨#[]⟩, ⟨#[]⟩, 0, 0, 0, 0, 0⟩
def kc (k : Int) : Cmd := ⟨k, ⟨#[]⟩, ⟨#[]⟩, 0, 0, 0, 0, 0⟩
/-- The fields of a line, read one behind the other. -/
def readAll (c : Cmd) : List Int → List ByteArray → Option Cmd
  | [], _ => some c
  | f :: fs, s :: ws => if readB f s = true then readAll (readC c f s) fs ws else none
  | _ :: _, [] => none
def words (line : ByteArray) : List ByteArray := Lib.splitB ⟨#[32]⟩ 0 (Lib.countB line ⟨#[32]⟩) line
def orFail : Option Cmd → Cmd × Int
  | some c => (c, 0)
  | none => (zeroC, 83)
def parseV (ws : List ByteArray) : List S39 → Cmd × Int
  | [] => (zeroC, 81)
  | v :: vs => if v.f1.toList == (ws.getD 0 ⟨#[]⟩).toList then
      (if ws.length = v.f2.length + 1 then
        orFail (readAll (kc v.f0) v.f2 ws.tail)
      else (zeroC, 82))
    else parseV ws vs
def parseP (line : ByteArray) : Cmd × Int := if line.size > 256 then (zeroC, 80) else parseV (words line) vt

def ParsePost (p : Cmd × Int) (w : World) (e : Ending) (w' : World) : Prop :=
  e = .returned (.tuple #[.agg (cells p.1), .int .i64 p.2]) ∧ Below w.heap.size w w'

/-- A command written whole into a block that holds one. -/
def put8 (w : World) (b : Nat) (c : Cmd) : World :=
  (((((((w.setCell ⟨b, 0, none⟩ (.int .i64 c.kind)).setCell ⟨b, 1, none⟩ (.string c.name)).setCell ⟨b, 2, none⟩ (.string c.parent)).setCell ⟨b, 3, none⟩ (.int .i64 c.shares)).setCell ⟨b, 4, none⟩ (.int .i64 c.nodes)).setCell ⟨b, 5, none⟩ (.int .i64 c.limit)).setCell ⟨b, 6, none⟩ (.int .i64 c.job)).setCell ⟨b, 7, none⟩ (.int .i64 c.ticks)
theorem cells_put (c0 c : Cmd) : ((((((((cells c0).setIfInBounds 0 (.int .i64 c.kind)).setIfInBounds 1 (.string c.name)).setIfInBounds 2 (.string c.parent)).setIfInBounds 3 (.int .i64 c.shares)).setIfInBounds 4 (.int .i64 c.nodes)).setIfInBounds 5 (.int .i64 c.limit)).setIfInBounds 6 (.int .i64 c.job)).setIfInBounds 7 (.int .i64 c.ticks) = cells c := by
  simp [cells]
theorem put8_cmd {w : World} {b : Nat} {c0 : Cmd} (h : IsCmd w b c0) (c : Cmd) : IsCmd (put8 w b c) b c := by
  have h0 := blk_set h 0 (.int .i64 c.kind)
  have h1 := blk_set h0 1 (.string c.name)
  have h2 := blk_set h1 2 (.string c.parent)
  have h3 := blk_set h2 3 (.int .i64 c.shares)
  have h4 := blk_set h3 4 (.int .i64 c.nodes)
  have h5 := blk_set h4 5 (.int .i64 c.limit)
  have h6 := blk_set h5 6 (.int .i64 c.job)
  have h7 := blk_set h6 7 (.int .i64 c.ticks)
  rw [cells_put] at h7
  exact h7
theorem put8_below {w0 w : World} {B b : Nat} (h : Below B w0 w) (hb : B ≤ b) (c : Cmd) : Below B w0 (put8 w b c) :=
  (((((((h.setCell (p := ⟨b, 0, none⟩) hb _).setCell (p := ⟨b, 1, none⟩) hb _).setCell (p := ⟨b, 2, none⟩) hb _).setCell (p := ⟨b, 3, none⟩) hb _).setCell (p := ⟨b, 4, none⟩) hb _).setCell (p := ⟨b, 5, none⟩) hb _).setCell (p := ⟨b, 6, none⟩) hb _).setCell (p := ⟨b, 7, none⟩) hb _
theorem cmd_cells {w : World} {b : Nat} {c : Cmd} (h : IsCmd w b c) : w.cell? ⟨b, 0, none⟩ = some (.int .i64 c.kind) ∧ w.cell? ⟨b, 1, none⟩ = some (.string c.name) ∧ w.cell? ⟨b, 2, none⟩ = some (.string c.parent) ∧ w.cell? ⟨b, 3, none⟩ = some (.int .i64 c.shares) ∧ w.cell? ⟨b, 4, none⟩ = some (.int .i64 c.nodes) ∧ w.cell? ⟨b, 5, none⟩ = some (.int .i64 c.limit) ∧ w.cell? ⟨b, 6, none⟩ = some (.int .i64 c.job) ∧ w.cell? ⟨b, 7, none⟩ = some (.int .i64 c.ticks) ∧ ∀ j, w.frozen? ⟨b, j, none⟩ = false :=
  ⟨blk_cell h 0, blk_cell h 1, blk_cell h 2, blk_cell h 3, blk_cell h 4, blk_cell h 5, blk_cell h 6, blk_cell h 7, fun j => blk_frozen h j⟩
theorem parse_close {R : Ending → World → Prop} {w' : World} {b : Nat} {c : Cmd} {code : Int} {tmps : Array Value} (h2 : tmps[2]?.getD undef = .pointer (some ⟨b, 0, none⟩)) (h3 : tmps[3]?.getD undef = .int .i64 code) (hc : IsCmd w' b c)
    (hR : R (.returned (.tuple #[.agg (cells c), .int .i64 code])) w') : bodyPost Tryd.prog Tryd.f6 R .ret { tmps := tmps, defers := [] } w' := by
  obtain ⟨c0, c1, c2, c3, c4, c5, c6, c7, _⟩ := cmd_cells hc
  refine bodyPost_ret (v := .tuple #[.agg (cells c), .int .i64 code]) ?_ rfl hR
  simp [results, Tryd.results6, go_sem, h2, h3, c0, c1, c2, c3, c4, c5, c6, c7, cells]
theorem rparse_close {R : Ending → World → Prop} {w' : World} {b : Nat} {c : Cmd} {code : Int} {tmps : Array Value} (h2 : tmps[2]?.getD undef = .pointer (some ⟨b, 0, none⟩)) (h3 : tmps[3]?.getD undef = .int .i64 code) (hc : IsCmd w' b c)
    (hR : R (.returned (.tuple #[.agg (cells c), .int .i64 code])) w') : bodyPost Tryd.prog Tryd.f7 R .ret { tmps := tmps, defers := [] } w' := by
  obtain ⟨c0, c1, c2, c3, c4, c5, c6, c7, _⟩ := cmd_cells hc
  refine bodyPost_ret (v := .tuple #[.agg (cells c), .int .i64 code]) ?_ rfl hR
  simp [results, Tryd.results7, go_sem, h2, h3, c0, c1, c2, c3, c4, c5, c6, c7, cells]

theorem parse_long (line : ByteArray) (w : World) (h : 256 < line.size) (hs : line.size ≤ 140737488351232) : Calls Tryd.prog 6 #[.string line] w (ParsePost (zeroC, 80) w) := by
  go_enter Tryd.func6, Tryd.ntmps6
  go_wp2
  exact bodyPost_ret (v := .tuple #[.agg (cells zeroC), .int .i64 80]) (by simp [results, Tryd.results6, go_sem, cells, zeroC]) rfl ⟨rfl, ((Below.refl _ _).alloc (Nat.le_refl _) _)⟩

end Go.Proofs.YtamimpomeigllaaDoor.V
