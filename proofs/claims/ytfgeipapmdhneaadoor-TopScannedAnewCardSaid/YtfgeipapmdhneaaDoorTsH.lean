/- What ParseFrame's range over slices.Chunk holds. -/
import Derived.Test.YtfgeipapmdhneaaDoorTsF
import Derived.Test.YtfgeipapmdhneaaDoorTsG
import Derived.Test.YtfgeipapmdhneaaDoorRgM
import Derived.Lib.ConvBytes
import Derived.Lib.SmallJoins
namespace Go.Proofs.YtfgeipapmdhneaaDoor
open Go.RowKit Go.Lib Go.Shelf

/-- The world ahead of the range. -/
theorem pf_world {w3 w5 : World} {p : Int} {S : ByteArray} {c : Nat} (hS : S.data.toList = List.replicate 128 0)
    (h5 : w5 = ((bytesWorld (w3.alloc (.cells #[.int .i64 p, .int .i64 1, .slice none 0 0] 35)) 5 S).alloc (.cells #[.slice (some ⟨w3.heap.size + 1, 0, none⟩) 128 c] 67)).alloc (.cells #[.int .i64 2] 3)) :
    Below w3.heap.size w3 w5 ∧ w5.heap.size = w3.heap.size + 4 ∧ Blk w5 w3.heap.size 35 #[.int .i64 p, .int .i64 1, .slice none 0 0] ∧
      (∀ k, k < 128 → w5.cell? ⟨w3.heap.size + 1, k, none⟩ = some (.int .u8 0)) ∧ Boxed w5 (w3.heap.size + 2) 67 (.slice (some ⟨w3.heap.size + 1, 0, none⟩) 128 c) ∧ Boxed w5 (w3.heap.size + 3) 3 (.int .i64 2) := by
  have hl : S.size = 128 := by
    have : S.data.toList.length = 128 := by rw [hS]; simp
    simpa using this
  obtain ⟨X, hX⟩ : ∃ X, w3.alloc (.cells #[.int .i64 p, .int .i64 1, .slice none 0 0] 35) = X := ⟨_, rfl⟩
  have hXs : X.heap.size = w3.heap.size + 1 := by rw [← hX]; simp
  have hXb : Below w3.heap.size w3 X := by rw [← hX]; exact (Below.refl _ _).alloc (Nat.le_refl _) _
  have bX : Blk X w3.heap.size 35 #[.int .i64 p, .int .i64 1, .slice none 0 0] := by rw [← hX]; exact Blk.new w3 _ _
  rw [hX] at h5
  obtain ⟨Y, hY⟩ : ∃ Y, bytesWorld X 5 S = Y := ⟨_, rfl⟩
  have hYs : Y.heap.size = w3.heap.size + 2 := by rw [← hY, bytesWorld_size, hXs]
  have hYb : Below X.heap.size X Y := by rw [← hY]; exact ⟨rfl, rfl, rfl, by rw [bytesWorld_size]; omega, fun j hj => bytesWorld_at_old _ _ _ j hj⟩
  have hYc : ∀ k, k < 128 → Y.cell? ⟨w3.heap.size + 1, k, none⟩ = some (.int .u8 0) := fun k hk => by
    have h1 := bytesWorld_cell X 5 S k (by omega)
    rw [hY, hXs, hS] at h1
    rw [h1]
    have h2 : (List.replicate 128 (0 : UInt8)).getD k 0 = 0 := by
      rw [List.getD_eq_getElem?_getD, List.getElem?_replicate, if_pos hk]; rfl
    rw [h2]; rfl
  rw [hY] at h5
  have b1 := bX.below hYb bX.lt
  have hB : Below w3.heap.size w3 w5 := by
    rw [h5]
    exact ((hXb.trans (hYb.mono (by omega))).alloc (by omega) _).alloc (by simp; omega) _
  subst h5
  refine ⟨hB, by simp; omega, (b1.alloc _).alloc _, fun k hk => ?_, ?_, ?_⟩
  · rw [World.cell?_alloc_lt _ _ _ (by simp; omega), World.cell?_alloc_lt _ _ _ (by simp only; omega)]; exact hYc k hk
  · exact (Blk.new' Y 67 #[.slice (some ⟨w3.heap.size + 1, 0, none⟩) 128 c] (g := w3.heap.size + 2) (by omega)).alloc _
  · exact Blk.new' _ 3 #[.int .i64 2] (g := w3.heap.size + 3) (by simp; omega)

/-- What the rounds hold: the frame in its box, with the samples so far. -/
def PfI (w5 : World) (f : Nat) (p : Int) (n : Nat) (W : World) : Prop :=
  ∃ v, Blk W f 35 #[.int .i64 p, .int .i64 1, v] ∧ W.ownsRow w5.heap.size 69 1 v n (zeroC n) ∧ w5.grownBy W (some f)
theorem own_kept {X Y : World} {base e size n B : Nat} {v : Value} {xs : List Value} {row : Option Nat} (h : X.ownsRow base e size v n xs) (hg : X.grownBy Y row) (hr : ∀ r, row = some r → B ≤ r ∧ ∃ o : Obj, X.heap[r]? = some o ∧ o.isCells = false) : Y.ownsRow base e size v n xs := by
  refine h.kept hg ?_
  rcases h.2 with ⟨rfl, _⟩ | ⟨g, cap, cur, rfl, _, hgb, _⟩
  · exact .inl rfl
  · refine .inr fun e' => ?_
    obtain ⟨_, o, ho, hc⟩ := hr g (by simpa [Value.ownBlock] using e'.symm)
    rw [hgb] at ho; cases ho; cases hc
theorem PfI.kept {w5 X Y : World} {f n : Nat} {p : Int} {row : Option Nat} (h : PfI w5 f p n X) (hf : f < w5.heap.size) (hg : X.grownBy Y row) (hr : ∀ r, row = some r → w5.heap.size ≤ r ∧ ∃ o : Obj, X.heap[r]? = some o ∧ o.isCells = false) : PfI w5 f p n Y := by
  obtain ⟨v, h1, h2, h3⟩ := h
  exact ⟨v, (hg.block f h1.lt (fun e => by have := (hr f e.symm).1; omega)).trans h1, own_kept h2 hg hr, h3.andThen hg (fun j e => Or.inl (hr j e).1)⟩
theorem gr_grown {X Y : World} (h : Gr X Y) (row : Option Nat) : X.grownBy Y row := ⟨h.os, h.tape, h.output, h.size, fun b hb _ => h.block b hb⟩
theorem gr_keeps {X Y : World} (B : Nat) (h : Gr X Y) : KeepsFrom B X Y := KeepsFrom.of_grownBy (gr_grown h none) (fun j e => by cases e)
/-- A round: a sample that is 0 goes behind the samples. -/
theorem PfI.push {w5 W X Y : World} {f n : Nat} {p : Int} {v v' : Value} {tmp : Obj} (_hf : f < w5.heap.size)
    (h1 : Blk W f 35 #[.int .i64 p, .int .i64 1, v]) (h2 : W.ownsRow w5.heap.size 69 1 v n (zeroC n)) (h3 : w5.grownBy W (some f))
    (hX : Gr W X) (hown : Y.ownsRow w5.heap.size 69 1 v' (n + 1) (zeroC n ++ [.float .f32 0])) (hgrow : (X.alloc tmp).grownBy Y v.ownBlock) :
    Blk Y f 35 #[.int .i64 p, .int .i64 1, v] ∧ PfI w5 f p (n + 1) (Y.setCell ⟨f, 2, none⟩ v') ∧ KeepsFrom w5.heap.size W (Y.setCell ⟨f, 2, none⟩ v') ∧ (∀ b, b < w5.heap.size → b ≠ f → (Y.setCell ⟨f, 2, none⟩ v').heap[b]? = W.heap[b]?) := by
  have hne := own_blk_ne h2 h1 (by decide)
  have hXa : Gr W (X.alloc tmp) := Below.alloc hX (Below.size hX) tmp
  have hlow : ∀ j, v.ownBlock = some j → w5.heap.size ≤ j := by
    intro j hj
    rcases h2.2 with ⟨rfl, _⟩ | ⟨g, cap, cur, rfl, hg, _⟩
    · cases hj
    · cases hj; exact hg
  have hWY : W.grownBy Y v.ownBlock := (gr_grown hXa v.ownBlock).trans hgrow
  have bY : Blk Y f 35 #[.int .i64 p, .int .i64 1, v] := h1.grown hWY (fun e => hne e.symm)
  have hset : Y.grownBy (Y.setCell ⟨f, 2, none⟩ v') (some f) := ⟨rfl, rfl, rfl, by simp, fun k hk hne' => Below.heap_setCell Y ⟨f, 2, none⟩ v' k (fun e => hne' (by rw [e]))⟩
  have hneY := own_blk_ne hown bY (by decide)
  have hz : zeroC n ++ [Value.float .f32 0] = zeroC (n + 1) := by unfold zeroC; rw [List.replicate_succ']
  refine ⟨bY, ⟨v', bY.set_ 2 v', ?_, ?_⟩, ?_, ?_⟩
  · rw [← hz]; exact hown.kept hset (.inr hneY)
  · exact (h3.andThen hWY (fun j e => Or.inl (hlow j e))).trans hset
  · refine ((gr_keeps _ hXa).trans ?_).trans ((KeepsOthers.setCell _ _ _).from _)
    refine ⟨hgrow.size, fun k o _ hk ho => ?_⟩
    refine (hgrow.block k (Array.getElem?_eq_some_iff.1 hk).1 (fun e => ?_)).trans hk
    rcases h2.2 with ⟨rfl, _⟩ | ⟨g, cap, cur, rfl, _, hgb, _⟩
    · cases e
    · cases e
      have := (hXa.block g (Array.getElem?_eq_some_iff.1 hgb).1).trans hgb
      rw [this] at hk; cases hk; cases ho
  · intro b hb hbf
    rw [hset.block b (Nat.lt_of_lt_of_le hb (Nat.le_trans h3.size hWY.size)) (fun e => hbf (Option.some.inj e))]
    exact hWY.block b (Nat.lt_of_lt_of_le hb h3.size) (fun e => by have := hlow b e.symm; omega)
end Go.Proofs.YtfgeipapmdhneaaDoor
