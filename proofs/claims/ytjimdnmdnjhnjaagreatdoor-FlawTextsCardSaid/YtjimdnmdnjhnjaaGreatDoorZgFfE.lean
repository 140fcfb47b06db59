/- Equality of marks; copies of marks opened. -/
import Derived.Test.YtjimdnmdnjhnjaaGreatDoorZgFcP
import Derived.Test.YtjimdnmdnjhnjaaGreatDoorZgFcN
namespace Go.Proofs.YtjimdnmdnjhnjaaGreatDoor
open Go.RowKit

theorem byte_refl (a : ByteArray) : (a == a) = true := by
  cases a with
  | mk d => exact beq_self_eq_true d
theorem part_range (xs : Array Value) (i : Nat) (a b : Value) (h0 : xs[i]? = some a) (h1 : xs[i + 1]? = some b) (w : World) : (part 23 xs i).run Tryz.prog w = .ok (.agg #[a, b]) w := by
  obtain ⟨inf, hi⟩ := Option.isSome_iff_exists.1 (show (Tryz.prog.info? 23).isSome = true by kernel_rfl)
  have hz : inf.size = 2 := by
    have : (Tryz.prog.info? 23).map (·.size) = some 2 := by kernel_rfl
    rw [hi] at this; simpa using this
  have he : xs.extract i (i + 2) = #[a, b] := by
    apply Array.ext_getElem?
    intro j
    rw [Array.getElem?_extract]
    have l1 := (Array.getElem?_eq_some_iff.1 h1).1
    match j with
    | 0 => rw [if_pos (by omega)]; exact h0
    | 1 => rw [if_pos (by omega)]; exact h1
    | j + 2 => rw [if_neg (by omega)]; rfl
  simp [part, isAgg, run_underlying Tryz.underlying23, sizeOf, typeInfo, hi, hz, he]
theorem eq_mark' (d : Nat) (m : Mk) (w : World) : (Op.equalIn (d + 3) 25 (.agg (mkC m)) (.agg (mkC m))).run Tryz.prog w = .ok true w := by
  have hs : (Tryz.prog.stoodInHeld 25) = false := by kernel_rfl
  have r1 := eq_range' d m.al m.ah m.al m.ah w
  have r2 := eq_range' d m.dl m.dh m.dl m.dh w
  simp only [decide_true, Bool.and_self] at r1 r2
  have e0 := run_eq_str (d := d + 1) m.nm m.nm w
  have p1 := part_range (mkC m) 1 (.int .i64 m.al) (.int .i64 m.ah) rfl rfl w
  have p2 := part_range (mkC m) 3 (.int .i64 m.dl) (.int .i64 m.dh) rfl rfl w
  unfold mkC at p1 p2
  unfold Op.equalIn
  simp [run_underlying Tryz.underlying25, hs, part_int, part_str, run_eq_int, run_eq_str, p1, p2, r1, r2, byte_refl m.nm]
theorem eq_mark_same (m : Mk) (w : World) : (Op.equalIn 10000 25 (.agg (mkC m)) (.agg (mkC m))).run Tryz.prog w = .ok true w := eq_mark' 9997 m w
end Go.Proofs.YtjimdnmdnjhnjaaGreatDoor
