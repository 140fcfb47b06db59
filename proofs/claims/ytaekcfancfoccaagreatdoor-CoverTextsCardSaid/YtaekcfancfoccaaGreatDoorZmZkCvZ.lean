/- Contract: Bevelled. -/
import Derived.Test.YtaekcfancfoccaaGreatDoorZmZkCvM
namespace Go.Proofs.YtaekcfancfoccaaGreatDoor
open Go.RowKit

structure Bv where
  thick : Int
  zone : Int
  gap : Int
  land : Int
  tn : Int
  td : Int
deriving DecidableEq
def bvC (nm : ByteArray) (b : Bv) : Array Value := #[.string nm, .int .i64 b.thick, .int .i64 b.zone, .int .i64 b.gap, .int .i64 b.land, .int .i64 b.tn, .int .i64 b.td]
theorem bv_cells {w : World} {g : Nat} {nm : ByteArray} {b : Bv} (h : Blk w g 75 (bvC nm b)) :
    w.cell? ⟨g, 0, none⟩ = some (.string nm) ∧ w.cell? ⟨g, 1, none⟩ = some (.int .i64 b.thick) ∧ w.cell? ⟨g, 2, none⟩ = some (.int .i64 b.zone) ∧ w.cell? ⟨g, 3, none⟩ = some (.int .i64 b.gap) ∧
      w.cell? ⟨g, 4, none⟩ = some (.int .i64 b.land) ∧ w.cell? ⟨g, 5, none⟩ = some (.int .i64 b.tn) ∧ w.cell? ⟨g, 6, none⟩ = some (.int .i64 b.td) :=
  ⟨h.cell 0, h.cell 1, h.cell 2, h.cell 3, h.cell 4, h.cell 5, h.cell 6⟩
structure Bv.wf (b : Bv) : Prop where
  thick : I64 b.thick
  zone : I64 b.zone
  gap : I64 b.gap
  land : I64 b.land
  tn : I64 b.tn
  td : I64 b.td
def Bv.depth (b : Bv) : Int := b.thick - b.land
def Bv.wide (b : Bv) : Int := b.gap + b.depth * b.tn / b.td
def bvB (b : Bv) : Bool := wi b.thick 1 20000 && (wi b.zone 0 20000 && (wi b.gap 0 20000 && wi b.land 0 b.thick))
def bvE (nm : ByteArray) (b : Bv) : Int := if nameB nm = false then 4 else if bvB b = false then 2 else if tanE b.tn b.td ≠ 0 then tanE b.tn b.td else if 20000 < b.wide then 8 else 0
def noJo : Value := .agg #[.string ⟨#[]⟩, .int .i64 0, .int .i64 0, .slice none 0 0]
def bvF (b : Bv) (sd : ByteArray) (sg : Int) : List (ByteArray × Fc) :=
  (if 0 < b.land then [(sd ++ (⟨#[45, 108, 97, 110, 100]⟩ : ByteArray), (⟨sg * b.gap, b.thick, sg * b.gap, b.depth⟩ : Fc))] else []) ++
  (if 0 < b.depth then [(sd ++ (⟨#[45, 98, 101, 118, 101, 108]⟩ : ByteArray), (⟨sg * b.gap, b.depth, sg * b.wide, 0⟩ : Fc))] else [])
def bvJ (nm : ByteArray) (b : Bv) : Jo := ⟨nm, b.thick, b.zone, bvF b ⟨#[108]⟩ (-1) ++ bvF b ⟨#[114]⟩ 1⟩
def BevR (nm : ByteArray) (b : Bv) (n : Nat) (e : Ending) (w' : World) : Prop :=
  (bvE nm b ≠ 0 → e = .returned (.tuple #[noJo, .int .i64 (bvE nm b)])) ∧
  (bvE nm b = 0 → ∃ v, e = .returned (.tuple #[.agg #[.string nm, .int .i64 b.thick, .int .i64 b.zone, v], .int .i64 0]) ∧ w'.ownsRow n 83 5 v (bvJ nm b).fs.length (fcsC (bvJ nm b).fs))

end Go.Proofs.YtaekcfancfoccaaGreatDoor
