/- The law OfficeSetups: its walk. -/
import Derived.Laws.AppendOwnNone
import Derived.Test.YtmdbpkomanhpoaaGreatDoorZqOvG
import Derived.Test.YtmdbpkomanhpoaaGreatDoorZqOsZ
import Derived.Test.YtmdbpkomanhpoaaGreatDoorZqOsU
import Derived.Test.YtmdbpkomanhpoaaGreatDoorZqOsS
import Derived.Test.YtmdbpkomanhpoaaGreatDoorZqCvV
namespace Go.Proofs.YtmdbpkomanhpoaaGreatDoor
open Go.RowKit Go.Lib

/-- A set-up as an argument. -/
structure SeRaw (s : Se) (m : Me) (B : Nat) (w : World) : Prop where
  pe : Row w B 2 m.pA s.pe.length (rowsC peF s.pe)
  ex : Row w B 13 m.eA s.cd.ex.length (rowsC rwF s.cd.ex)
  rows : Row w B 13 m.rA s.cd.rows.length (rowsC rwF s.cd.rows)
  st : Row w B 4 m.sA s.st.length (rowsC stF s.st)
  nd : ∀ p ∈ s.st, Row w B 1 p.A p.needs.length (intsC p.needs) ∧ (p.A = none → p.c = 0)
  lv : Row w B 2 m.lA s.lv.length (rowsC lvF s.lv)
  base : B ≤ w.heap.size
  pl : s.pe.length ≤ m.pc ∧ m.pc ≤ 9223372036854775807 ∧ (m.pA = none → m.pc = 0)
  el : m.eA = none → m.ec = 0
  rl : m.rA = none → m.rc = 0
  sl : s.st.length ≤ m.sc ∧ m.sc ≤ 9223372036854775807 ∧ (m.sA = none → m.sc = 0)
  ll : s.lv.length ≤ m.lc ∧ m.lc ≤ 9223372036854775807 ∧ (m.lA = none → m.lc = 0)
theorem SeRaw.ok {s : Se} {m : Me} {B : Nat} {w : World} (h : SeRaw s m B w) (hs : SlOk s) : SeOk s m B w ∧ SeNil s m := by
  have h1 := hs.pe; have h2 := hs.nm; have h3 := hs.ex; have h4 := hs.rows; have h5 := hs.st; have h6 := hs.lv
  exact ⟨⟨⟨fun p hp => Nat.le_trans (hs.pn p hp) (by decide), h.pl.1, h.pl.2.1, h.pe, h.base⟩, ⟨by omega, by omega, by omega, h.ex, h.rows, h.el, h.rl, h.base⟩, ⟨fun p hp => Nat.le_trans (hs.sn p hp).1 (by decide), fun p hp => ⟨Nat.le_trans (hs.sn p hp).2 (by decide), (h.nd p hp).1⟩, h.sl.1, h.sl.2.1, h.st, h.base⟩, ⟨h.ll.1, h.ll.2.1, h.lv, h.base⟩⟩,
    ⟨h.pl.2.2, h.sl.2.2, h.ll.2.2, fun p hp => (h.nd p hp).2, by omega, by omega, by omega⟩⟩
end Go.Proofs.YtmdbpkomanhpoaaGreatDoor
