/- Contract: Bevelled, where the ask is right and the tangent too: the joint, or the error of one that is too wide. -/
import Derived.Test.YtlnkgjkjdllckaaGreatDoorZpCvM
import Derived.Test.YtlnkgjkjdllckaaGreatDoorZpCvU
namespace Go.Proofs.YtlnkgjkjdllckaaGreatDoor
open Go.RowKit

theorem infoFace : (Tryz.prog.info? 100).map (fun i => (i.zero, i.size, i.bytes)) = some (some (.agg #[.string ⟨#[]⟩, .int .i64 0, .int .i64 0, .int .i64 0, .int .i64 0]), 5, 48) := by kernel_rfl
theorem own_set {w : World} {base e size n : Nat} {v : Value} {xs : List Value} (h : w.ownsRow base e size v n xs) {p : Addr} (hp : p.block < base) (u : Value) : (w.setCell p u).ownsRow base e size v n xs :=
  h.kept (only_setCell (World.grownBy.refl w (some p.block)) (.inl rfl) u) (.inr (Ne.symm (own_ne h (.inl hp))))

end Go.Proofs.YtlnkgjkjdllckaaGreatDoor
