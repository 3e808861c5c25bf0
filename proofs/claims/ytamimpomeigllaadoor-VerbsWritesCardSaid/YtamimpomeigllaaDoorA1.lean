/- Own text: the small functions of verbs and of its reference that hand out addresses of a command's fields. -/
import Derived.Test.YtamimpomeigllaaDoorProg
import Derived.WalkKit
import Derived.Lib.Hide
namespace Go.Proofs.YtamimpomeigllaaDoor.V
open Go.RowKit

/-- where the field f's text stands in the command at block b -/
def textP (b : Nat) (f : Int) : Option Addr := if f = 0 then some ⟨b, 1, none⟩ else if f = 1 then some ⟨b, 2, none⟩ else none
def numOff (f : Int) : Nat := if f = 2 then 3 else if f = 3 then 4 else if f = 4 then 5 else if f = 5 then 6 else 7

theorem text_any (b : Nat) (f : Int) (w : World) :
    Calls Tryd.prog 23 #[.pointer (some ⟨b, 0, none⟩), .int .i64 f] w fun e w' => e = .returned (.pointer (textP b f)) ∧ w = w' := by
  by_cases h0 : f = 0
  · subst h0
    go_enter Tryd.func23, Tryd.ntmps23
    go_wp2
    go_ret
    exact ⟨rfl, rfl⟩
  · by_cases h1 : f = 1
    · subst h1
      go_enter Tryd.func23, Tryd.ntmps23
      go_wp2
      go_ret
      exact ⟨rfl, rfl⟩
    · have e : textP b f = none := by simp [textP, h0, h1]
      rw [e]
      clear e
      go_enter Tryd.func23, Tryd.ntmps23
      go_wp2
      go_ret
      exact ⟨rfl, rfl⟩

theorem number_any (b : Nat) (f : Int) (w : World) :
    Calls Tryd.prog 25 #[.pointer (some ⟨b, 0, none⟩), .int .i64 f] w fun e w' => e = .returned (.pointer (some ⟨b, numOff f, none⟩)) ∧ w = w' := by
  by_cases h2 : f = 2
  · subst h2
    go_enter Tryd.func25, Tryd.ntmps25
    go_wp2
    go_ret
    exact ⟨rfl, rfl⟩
  by_cases h3 : f = 3
  · subst h3
    go_enter Tryd.func25, Tryd.ntmps25
    go_wp2
    go_ret
    exact ⟨rfl, rfl⟩
  by_cases h4 : f = 4
  · subst h4
    go_enter Tryd.func25, Tryd.ntmps25
    go_wp2
    go_ret
    exact ⟨rfl, rfl⟩
  by_cases h5 : f = 5
  · subst h5
    go_enter Tryd.func25, Tryd.ntmps25
    go_wp2
    go_ret
    exact ⟨rfl, rfl⟩
  have e : numOff f = 7 := by simp [numOff, h2, h3, h4, h5]
  rw [e]
  clear e
  go_enter Tryd.func25, Tryd.ntmps25
  go_wp2
  go_ret
  exact ⟨rfl, rfl⟩

end Go.Proofs.YtamimpomeigllaaDoor.V
