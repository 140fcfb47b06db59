/- Contract: the area of a cell. -/
import Derived.Test.YtidgeagpgllkeaaGreatFaW
namespace Go.Proofs.YtidgeagpgllkeaaGreat
open Go.RowKit Go.Shelf

attribute [local go_sem] Oper.semAt_some

/-- The cell with the greatest amplitude, of cells in order. -/
def peakV (g : Int → Int → Int) (cs : List (Int × Int)) : Int × Int := cs.foldl (fun p x => if g p.1 p.2 < g x.1 x.2 then x else p) (cs.headD (0, 0))

set_option maxHeartbeats 400000 in
theorem neighbours_any (r c : Int) (corners : Bool) (w : World) :
    Calls Tryz.prog 145 #[.agg #[.int .i64 r, .int .i64 c], .bool corners] w fun e w' => e = .returned (.func (.func 174) #[] #[.pointer (some ⟨w.heap.size + 1, 0, none⟩), .pointer (some ⟨w.heap.size, 0, none⟩)]) ∧
      (w.alloc (.cells #[.int .i64 r, .int .i64 c] 25)).alloc (.cells #[.bool corners] 4) = w' := by
  go_enter Tryz.func145, Tryz.ntmps145
  go_wp2
  go_ret
  exact ⟨rfl, rfl⟩

theorem nb_stops (F : Fence) (n : Nat) (h7 : F.fn 174) (hro : F.round = none) (hn : 1 ≤ n) (Bc Ba : Nat) (r c : Int) (corners : Bool) (hr : -150000 ≤ r ∧ r ≤ 150000) (hc : -150000 ≤ c ∧ c ≤ 150000) (w : World) (hBc : Bc < w.heap.size) (hBa : Ba < w.heap.size)
    (c0 : w.cell? ⟨Bc, 0, none⟩ = some (.bool corners)) (a0 : w.cell? ⟨Ba, 0, none⟩ = some (.int .i64 r)) (a1 : w.cell? ⟨Ba, 1, none⟩ = some (.int .i64 c)) :
    SeqStopsK F n Tryz.prog 174 #[.pointer (some ⟨Bc, 0, none⟩), .pointer (some ⟨Ba, 0, none⟩)] (fun x : Cel => #[.agg #[.int .i64 x.1.1, .int .i64 x.1.2]]) (KN Bc Ba) (fun ys : List Cel => ys.map (·.1) = nbV r c corners 9) (fun pre : List Cel => pre.map (·.1) <+: nbV r c corners 9) 9 w := fun l J Jx W hW _ _ hY h0 => by
  have k0 := (hW.cell (p := ⟨Bc, 0, none⟩) hBc).trans c0
  have k1 := (hW.cell (p := ⟨Ba, 0, none⟩) hBa).trans a0
  have k2 := (hW.cell (p := ⟨Ba, 1, none⟩) hBa).trans a1
  refine (nb1_in F n h7 hro hn l Bc Ba r c corners hr hc J Jx hY W k0 k1 k2 h0).mono ?_
  rintro e W' ⟨he, ⟨ys, h1, hj⟩ | ⟨pre, h1, hj⟩⟩
  · exact ⟨he, .inl ⟨ys, h1, hj⟩⟩
  · exact ⟨he, .inr ⟨pre, h1, hj⟩⟩

/-- What lies in memory between two rounds. -/
structure ArI (w : World) (b n S B3 B4 B6 B7 B8 : Nat) (g : Int → Int → Int) (level : Int) (corners : Bool) (L : List (Int × Int)) (v : Value) (W : World) : Prop where
  b3 : Blk W B3 147 #[.map (some b)]
  b4 : Blk W B4 24 #[.int .i64 level, .bool corners]
  b6 : Blk W B6 91 #[.slice none 0 0, .int .i64 0, .int .i64 0, .int .i64 0]
  b7 : Blk W B7 153 #[.map (some S)]
  b8 : Blk W B8 91 #[v, .int .i64 0, .int .i64 0, .int .i64 0]
  hM : FMap W b n g
  hS : BMap W S L.length (fun x y => decide ((x, y) ∈ L))
  row : W.ownsRow w.heap.size 25 2 v L.length (cellsC L)
  below : Below w.heap.size w W
section
variable {w W W' : World} {b n S B3 B4 B6 B7 B8 : Nat} {g : Int → Int → Int} {level : Int} {corners : Bool} {L : List (Int × Int)} {v : Value}
theorem ArI.gr (h : ArI w b n S B3 B4 B6 B7 B8 g level corners L v W) (k : Gr W W') : ArI w b n S B3 B4 B6 B7 B8 g level corners L v W' :=
  ⟨h.b3.gr k, h.b4.gr k, h.b6.gr k, h.b7.gr k, h.b8.gr k, h.hM.gr k, h.hS.gr k, own_below h.row k, h.below.trans (Below.mono k (Below.size h.below))⟩
theorem ArI.alloc (h : ArI w b n S B3 B4 B6 B7 B8 g level corners L v W) (o : Obj) : ArI w b n S B3 B4 B6 B7 B8 g level corners L v (W.alloc o) := h.gr ((Below.refl _ _).alloc (Nat.le_refl _) _)
end
theorem rowCell {base g n cap : Nat} {L : List (Int × Int)} {w : World} {e : TypeId} (h : w.ownsRow base e 2 (.slice (some ⟨g, 0, none⟩) n cap) n (cellsC L)) {i : Nat} (hi : i < L.length) :
    w.cell? ⟨g, i * 2, none⟩ = some (.int .i64 L[i].1) ∧ w.cell? ⟨g, i * 2 + 1, none⟩ = some (.int .i64 L[i].2) := by
  have hl : n = L.length := by have := h.1; rw [cellsC_len] at this; omega
  subst hl
  have e1 : (cellsC L)[i * 2]? = some (.int .i64 L[i].1) := by
    rw [flat_getC, show i * 2 / 2 = i by omega, show i * 2 % 2 = 0 by omega, List.getElem?_eq_getElem hi]; rfl
  have e2 : (cellsC L)[i * 2 + 1]? = some (.int .i64 L[i].2) := by
    rw [flat_getC, show (i * 2 + 1) / 2 = i by omega, show (i * 2 + 1) % 2 = 1 by omega, List.getElem?_eq_getElem hi]; rfl
  exact ⟨by rw [h.cellAt _ (by omega), e1], by rw [h.cellAt _ (by omega), e2]⟩

/-- The body of a loop by its place in the text. -/
def loopsC : Code → List Code
  | .seq a b => loopsC a ++ loopsC b
  | .cond _ a b => loopsC a ++ loopsC b
  | .block _ b => loopsC b
  | .loop b => b :: loopsC b
  | .scope b => loopsC b
  | _ => []
def bodyOf (f : Func) (k : Nat) : Code := ((f.body.map loopsC).getD [])[k]?.getD .skip
end Go.Proofs.YtidgeagpgllkeaaGreat
