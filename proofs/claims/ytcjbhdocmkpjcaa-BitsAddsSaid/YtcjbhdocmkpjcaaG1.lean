/- The first reference's functions as contracts in closed form, for the prints of their callers. No condition. -/
import Derived.Test.YtcjbhdocmkpjcaaR1
namespace Go.Proofs.Ytcjbhdocmkpjcaa.Giv
open Go.RowKit Go.Proofs.Ytcjbhdocmkpjcaa.Ev Go.Proofs.YtcjbhdocmkpjcaaW.PrintWords Go.Proofs.YtcjbhdocmkpjcaaW.PrintMore Go.Proofs.Ytcjbhdocmkpjcaa.Base Go.Proofs.Ytcjbhdocmkpjcaa.Sets
set_option linter.unusedVariables false

def gumshoeref01_Same.f (a b : List Int) : Option Bool := some (decide (a = b))
theorem gumshoeref01_Same.calls (A0 : Option Addr) (c0 : Nat) (l0 : List Int) (A1 : Option Addr) (c1 : Nat) (l1 : List Int) (r : Bool) (w : World) (hr0 : Kd.C (Kd.int .i64) w A0 l0.length l0) (hc0 : l0.length ≤ c0) (hr1 : Kd.C (Kd.int .i64) w A1 l1.length l1) (hc1 : l1.length ≤ c1) (h : gumshoeref01_Same.f l0 l1 = some r) :
    Calls Try.prog 14 #[.slice A0 l0.length c0, .slice A1 l1.length c1] w fun e w' => e = .returned (.bool r) ∧ Drawn0 w w' := by
  obtain rfl := Option.some.inj h
  obtain ⟨k, hk⟩ := (Ref.same_tells l0 l1 hr0.2.1).ex
  exact Pb.gumshoeref01_Same.calls k A0 c0 l0 A1 c1 l1 _ w hr0 hc0 hr1 hc1 hk
def gumshoeref01_Right.f (a : List Int) : Option Bool := some (setB a)
theorem gumshoeref01_Right.calls (A0 : Option Addr) (c0 : Nat) (l0 : List Int) (r : Bool) (w : World) (hr0 : Kd.C (Kd.int .i64) w A0 l0.length l0) (hc0 : l0.length ≤ c0) (h : gumshoeref01_Right.f l0 = some r) :
    Calls Try.prog 23 #[.slice A0 l0.length c0] w fun e w' => e = .returned (.bool r) ∧ Drawn0 w w' := by
  obtain rfl := Option.some.inj h
  obtain ⟨k, hk⟩ := (Ref.right_tells l0 hr0.2.1).ex
  exact Pb.gumshoeref01_Right.calls k A0 c0 l0 _ w hr0 hc0 hk
def gumshoeref01_Has.f (a : List Int) (n : Int) : Option Bool := some (a.contains n)
theorem gumshoeref01_Has.calls (A0 : Option Addr) (c0 : Nat) (l0 : List Int) (a1 : Int) (r : Bool) (w : World) (hr0 : Kd.C (Kd.int .i64) w A0 l0.length l0) (hc0 : l0.length ≤ c0) (h : gumshoeref01_Has.f l0 a1 = some r) :
    Calls Try.prog 17 #[.slice A0 l0.length c0, .int .i64 a1] w fun e w' => e = .returned (.bool r) ∧ Drawn0 w w' := by
  obtain rfl := Option.some.inj h
  obtain ⟨k, hk⟩ := (Ref.has_tells l0 a1 hr0.2.1).ex
  exact Pb.gumshoeref01_Has.calls k A0 c0 l0 a1 _ w hr0 hc0 hk
def bits_Right.f (a : List Int) : Option Bool := some (setB a)
theorem bits_Right.calls (A0 : Option Addr) (c0 : Nat) (l0 : List Int) (r : Bool) (w : World) (hr0 : Kd.C (Kd.int .i64) w A0 l0.length l0) (hc0 : l0.length ≤ c0) (h : bits_Right.f l0 = some r) :
    Calls Try.prog 25 #[.slice A0 l0.length c0] w fun e w' => e = .returned (.bool r) ∧ Drawn0 w w' := by
  obtain rfl := Option.some.inj h
  exact Ext.right_calls A0 c0 l0 w hr0 hc0
end Go.Proofs.Ytcjbhdocmkpjcaa.Giv
