/- Openers of the rows' arguments: asks, points. -/
import Derived.Test.YtfbnpfhnffahdaaGreatDoorCwQ
namespace Go.Proofs.YtfbnpfhnffahdaaGreatDoor
open Go.ChangeShapes Go.WideShapes Go.ChangeAt Go.RowKit

theorem cellsSetup : Tryz.prog.cellsOf 44 = 10 := by kernel_rfl
theorem cellsAsk : Tryz.prog.cellsOf 46 = 11 := by kernel_rfl

section
variable {H : Type} {enc : TypeId × Value → H} {w : World} {base : Nat} {spare : Nat → Bool} {held : Bool}
set_option maxRecDepth 4000 in
theorem open_setup_ {fuel : Nat} {cs : List Value} {x : DataW H × List MemPlace} (h : DataW.trod enc Tryz.prog w base spare held fuel 44 cs = some x) :
    ∃ (sn : ByteArray) (s : Su), cs = [.string sn, .int .i64 s.at_, .int .i64 s.side, .int .i64 s.legs, .int .i64 s.ln, .int .i64 s.ld, .int .i64 s.mn, .int .i64 s.md, .int .i64 s.tn, .int .i64 s.td] ∧ s.wf := by
  have ht := Tryz.underlying44
  obtain ⟨_, _, _, _, hlen, _, _⟩ := DataW.trod_struct ht h
  obtain ⟨v, y, m, h0, h0'⟩ := field_one ht h 0 _ rfl cellsStr (by rw [cellsSetup]; decide)
  obtain ⟨sn, hs, _, _⟩ := DataW.trod_string Tryz.underlying9 h0'
  obtain ⟨n1, h1, w1⟩ := field_int ht h 1 _ rfl cells3 (by rw [cellsSetup]; decide) Tryz.underlying3
  obtain ⟨n2, h2, w2⟩ := field_int ht h 2 _ rfl cells3 (by rw [cellsSetup]; decide) Tryz.underlying3
  obtain ⟨n3, h3, w3⟩ := field_int ht h 3 _ rfl cells3 (by rw [cellsSetup]; decide) Tryz.underlying3
  obtain ⟨y4, m4, h4⟩ := field_sub ht h 4 _ rfl
  obtain ⟨a4, b4, e4, u4, v4⟩ := open_frac h4
  obtain ⟨y5, m5, h5⟩ := field_sub ht h 5 _ rfl
  obtain ⟨a5, b5, e5, u5, v5⟩ := open_frac h5
  obtain ⟨y6, m6, h6⟩ := field_sub ht h 6 _ rfl
  obtain ⟨a6, b6, e6, u6, v6⟩ := open_frac h6
  have hl : cs.length = 10 := hlen.trans cellsSetup
  match cs, hl with
  | [c0, c1, c2, c3, c4, c5, c6, c7, c8, c9], _ =>
    have e4' : (([c0, c1, c2, c3, c4, c5, c6, c7, c8, c9] : List Value).drop 4).take (Tryz.prog.cellsOf 26) = [.int .i64 a4, .int .i64 b4] := e4
    have e5' : (([c0, c1, c2, c3, c4, c5, c6, c7, c8, c9] : List Value).drop 6).take (Tryz.prog.cellsOf 26) = [.int .i64 a5, .int .i64 b5] := e5
    have e6' : (([c0, c1, c2, c3, c4, c5, c6, c7, c8, c9] : List Value).drop 8).take (Tryz.prog.cellsOf 26) = [.int .i64 a6, .int .i64 b6] := e6
    clear e4 e5 e6
    rw [cellsFrac] at e4' e5' e6'
    simp at e4' e5' e6' h0 h1 h2 h3 hs
    exact ⟨sn, ⟨n1, n2, n3, a4, b4, a5, b5, a6, b6⟩, by rw [h0, hs, h1, h2, h3, e4'.1, e4'.2, e5'.1, e5'.2, e6'.1, e6'.2], ⟨w1, w2, w3, u4, v4, u5, v5, u6, v6⟩⟩
end

section
variable {H : Type} {enc : TypeId × Value → H} {w : World} {r : Reach} {b0 base : Nat} {spare : Nat → Bool} {held : Bool} {v : Value} {d : DataW H} {ps : List MemPlace}
set_option maxRecDepth 4000 in
/-- A face and a set-up. -/
theorem open_ask (hval : Value.okWide Tryz.prog w r b0 46 v) (hd : DataW.Trod enc Tryz.prog w base spare held 46 v d ps) :
    ∃ (face : Int) (sn : ByteArray) (s : Su), v = .agg (asC face sn s) ∧ I64 face ∧ s.wf := by
  have ht := Tryz.underlying46
  obtain ⟨cs, rfl, hcs⟩ := okWide_struct ht hval
  obtain ⟨n, h⟩ := hd
  have hc : cs.toList.length = 11 := by simpa using hcs.trans cellsAsk
  have h' : DataW.trod enc Tryz.prog w base spare held n 46 cs.toList = some (d, ps) := h
  obtain ⟨n0, h0, w0⟩ := field_int ht h' 0 _ rfl cells3 (by rw [cellsAsk]; decide) Tryz.underlying3
  obtain ⟨y1, m1, h1⟩ := field_sub ht h' 1 _ rfl
  obtain ⟨sn, s, e1, ws⟩ := open_setup_ h1
  refine ⟨n0, sn, s, ?_, w0, ws⟩
  have e1' : (cs.toList.drop 1).take (Tryz.prog.cellsOf 44) = _ := e1
  clear e1
  rw [cellsSetup] at e1'
  have hl : cs.toList = (asC n0 sn s).toList := by
    match hq : cs.toList, hc with
    | [c0, c1, c2, c3, c4, c5, c6, c7, c8, c9, c10], _ =>
      rw [hq] at h0 e1'
      simp at h0 e1'
      simp [asC, h0, e1']
  have : cs = asC n0 sn s := by apply Array.ext'; exact hl
  rw [this]
set_option maxRecDepth 4000 in
/-- A point of a face. -/
theorem open_point (hval : Value.okWide Tryz.prog w r b0 49 v) (hd : DataW.Trod enc Tryz.prog w base spare held 49 v d ps) :
    ∃ n m : Int, v = .agg #[.int .i64 n, .int .i64 m] ∧ I64 n ∧ I64 m := by
  have ht := Tryz.underlying49
  obtain ⟨cs, rfl, hcs⟩ := okWide_struct ht hval
  obtain ⟨k, h⟩ := hd
  have hc : cs.toList.length = 2 := by simpa using hcs.trans cellsPoint
  have h' : DataW.trod enc Tryz.prog w base spare held k 49 cs.toList = some (d, ps) := h
  obtain ⟨n0, h0, w0⟩ := field_int ht h' 0 _ rfl cells3 (by rw [cellsPoint]; decide) Tryz.underlying3
  obtain ⟨n1, h1, w1⟩ := field_int ht h' 1 _ rfl cells3 (by rw [cellsPoint]; decide) Tryz.underlying3
  refine ⟨n0, n1, ?_, w0, w1⟩
  have hl : cs.toList = [.int .i64 n0, .int .i64 n1] := by
    match hq : cs.toList, hc with
    | [c0, c1], _ =>
      rw [hq] at h0 h1
      simp at h0 h1
      rw [h0, h1]
  have : cs = #[.int .i64 n0, .int .i64 n1] := by apply Array.ext'; exact hl
  rw [this]
end
end Go.Proofs.YtfbnpfhnffahdaaGreatDoor
