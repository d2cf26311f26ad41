/- Whatever reads as data of the law's type Vector is such a datum. -/
import Derived.Test.YtekcpadlmfaihaaDtVector
import Derived.Test.YtekcpadlmfaihaaDop
import Derived.Test.YtekcpadlmfaihaaDsItem
namespace Go.Proofs.Ytekcpadlmfaihaa
open Go.RowKit
theorem shpA_map_mem {α : Type} {f : α → D} {e : TypeId} : ∀ {l : List D}, (∀ d ∈ l, shp Try.prog d e → ∃ x, d = f x) → shpA Try.prog l e → ∃ xs : List α, l = xs.map f
  | [], _, _ => ⟨[], rfl⟩
  | x :: t, hf, h => by
    rw [shpA] at h
    obtain ⟨y, rfl⟩ := hf x List.mem_cons_self h.1
    obtain ⟨ys, rfl⟩ := shpA_map_mem (fun d hd => hf d (List.mem_cons_of_mem _ hd)) h.2
    exact ⟨y :: ys, rfl⟩
theorem Vector_shpN (n : Nat) : ∀ d : D, SizeOf.sizeOf d ≤ n → shp Try.prog d 26 → ∃ x : Vec, d = x.toD := by
  induction n with
  | zero => intro d hn; cases d <;> simp at hn
  | succ n ih =>
    intro d hn h
    obtain ⟨xs, rfl, g⟩ := shp_struct Try.underlying26 h
    clear h
    obtain ⟨x0, ys0, rfl, h0, g0⟩ := shpL_cons g
    obtain ⟨x1, ys1, rfl, h1, g1⟩ := shpL_cons g0
    obtain ⟨x2, ys2, rfl, h2, g2⟩ := shpL_cons g1
    obtain ⟨x3, ys3, rfl, h3, g3⟩ := shpL_cons g2
    obtain ⟨x4, ys4, rfl, h4, g4⟩ := shpL_cons g3
    obtain ⟨x5, ys5, rfl, h5, g5⟩ := shpL_cons g4
    obtain ⟨x6, ys6, rfl, h6, g6⟩ := shpL_cons g5
    obtain ⟨x7, ys7, rfl, h7, g7⟩ := shpL_cons g6
    obtain rfl := shpL_nil g7
    obtain ⟨v0, rfl⟩ := shp_int Try.underlying3 h0
    obtain ⟨l1, rfl, e1⟩ := shp_slice Try.underlying22 h1
    obtain ⟨v1, rfl⟩ := shpA_map (fun d => Item_shp) e1
    obtain ⟨l2, rfl, e2⟩ := shp_slice Try.underlying23 h2
    obtain ⟨v2, rfl⟩ := shpA_map_mem (f := Vec.toD) (fun d hd hs => ih d (by have := List.sizeOf_lt_of_mem hd; simp at hn; omega) hs) e2
    obtain ⟨l3, rfl, e3⟩ := shp_slice Try.underlying24 h3
    obtain ⟨v3, rfl⟩ := shpA_map (fun d => shp_str Try.underlying9) e3
    obtain ⟨l4, rfl, e4⟩ := shp_slice Try.underlying24 h4
    obtain ⟨v4, rfl⟩ := shpA_map (fun d => shp_str Try.underlying9) e4
    obtain ⟨l5, rfl, e5⟩ := shp_slice Try.underlying24 h5
    obtain ⟨v5, rfl⟩ := shpA_map (fun d => shp_str Try.underlying9) e5
    obtain ⟨v6, rfl⟩ := shp_int Try.underlying3 h6
    obtain ⟨v7, rfl⟩ := shp_int Try.underlying3 h7
    exact ⟨⟨v0, v1, v2, v3, v4, v5, v6, v7⟩, by rw [Vector_toD]⟩
theorem Vector_shp {d : D} (h : shp Try.prog d 26) : ∃ x : Vec, d = x.toD := Vector_shpN _ d (Nat.le_refl _) h
end Go.Proofs.Ytekcpadlmfaihaa
