/- An argument that is a struct by value. -/
import Derived.Test.YtcmigmldecacpaaOpen
namespace Gy
open Go Go.RowKit Go.Proofs.YtcmigmldecacpaaW.PrintWords
section
variable {P : Program}
/-- An argument that is a struct by value. -/
theorem Opens.argS {t : TypeId} {fs : Array Field} {α : Type} {d : Kd α} {good : α → Prop} (_ht : P.underlying t = some (.struct fs)) (h : Opens P t d good) {H : Type} {enc : TypeId × Value → H} {W : World} {base : Nat} {held : Bool} {cs : Array Value} {x : DataW H} {ps : List MemPlace}
    (hx : DataW.Trod enc P W base (fun _ => true) held t (.agg cs) x ps) : ∃ a : α, d.K W a cs.toList ∧ good a := by
  obtain ⟨fuel, hf⟩ := hx
  have e : (Value.agg cs).cells = cs := rfl
  rw [e] at hf
  exact h.2 H enc W base held fuel _ _ hf
end
end Gy
