/- What a call leaves as it was, in the form that the walk uses. -/
import Derived.Test.YtekcpadlmfaihaaBas2
namespace Go.Proofs.Ytekcpadlmfaihaa
open Go.RowKit
theorem bcell {W w1 : World} (hb : Below W.heap.size W w1) : (∀ b o, b < W.heap.size → w1.cell? ⟨b, o, none⟩ = W.cell? ⟨b, o, none⟩) ∧ (∀ b o, b < W.heap.size → w1.frozen? ⟨b, o, none⟩ = W.frozen? ⟨b, o, none⟩) :=
  ⟨fun b o h => hb.cell (p := ⟨b, o, none⟩) h, fun b o h => hb.frozen (p := ⟨b, o, none⟩) h⟩
theorem wsize_alloc (w : World) (o : Obj) : (w.alloc o).heap.size = w.heap.size + 1 := by simp
theorem wsize_set (w : World) (p : Addr) (u : Value) : (w.setCell p u).heap.size = w.heap.size := by simp [World.setCell]
/-- A store into a block below the row's base leaves the row. -/
theorem Own.poke {α : Type} {enc : α → List Value} {s : Nat} {e : TypeId} {w : World} {base n c : Nat} {A : Option Addr} {l : List α} (h : Own enc s e w base A n c l) {p : Addr} (hp : p.block < base) (u : Value) : Own enc s e (w.setCell p u) base A n c l :=
  h.kept (only_setCell (only_refl _ _) (.inl rfl) u) (h.apart (.inl hp))
theorem Blk.next {w w' : World} {g : Nat} {t : TypeId} {cs : List Value} (h : Blk w g t cs) (hb : Below w.heap.size w w') : Blk w' g t cs := h.below hb h.lt
theorem Blk.c4 {w : World} {g : Nat} {t : TypeId} {a b c d : Value} (h : Blk w g t [a, b, c, d]) : w.cell? ⟨g, 0, none⟩ = some a ∧ w.cell? ⟨g, 1, none⟩ = some b ∧ w.cell? ⟨g, 2, none⟩ = some c ∧ w.cell? ⟨g, 3, none⟩ = some d := ⟨h.cell 0, h.cell 1, h.cell 2, h.cell 3⟩
end Go.Proofs.Ytekcpadlmfaihaa
