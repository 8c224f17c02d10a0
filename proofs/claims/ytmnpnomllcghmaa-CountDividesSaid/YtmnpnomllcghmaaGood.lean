/- What is asked of the program, of this one. -/
import Derived.Test.YtmnpnomllcghmaaLaw
import Derived.Test.YtmnpnomllcghmaaChecked
import Derived.KernelRfl
namespace Go.Proofs.Ytmnpnomllcghmaa.Ev
open Go
def namesOk (P : Program) : Bool := P.funcs.toList.all fun fu => !(fu.name == "runtime.NumGoroutine")
theorem good_of {P : Program} (h1 : P.follows .mixedOrders = true) (h2 : namesOk P = true) : Good P where
  mixed := h1
  names := fun g fu hf _ => by
    have h := List.all_eq_true.1 h2 fu (by
      have := Array.getElem?_eq_some_iff.1 hf
      obtain ⟨hlt, he⟩ := this
      rw [← he]
      simp)
    simpa using h
theorem good : Good Try.prog := good_of (Checked.mixed Try.checked) (by kernel_rfl)
end Go.Proofs.Ytmnpnomllcghmaa.Ev
