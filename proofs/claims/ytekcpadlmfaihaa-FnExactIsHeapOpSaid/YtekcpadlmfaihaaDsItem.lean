/- Whatever reads as data of the law's type Item is such a datum. -/
import Derived.Test.YtekcpadlmfaihaaDtItem
import Derived.Test.YtekcpadlmfaihaaDop
namespace Go.Proofs.Ytekcpadlmfaihaa
open Go.RowKit
theorem Item_shp {d : D} (h : shp Try.prog d 107) : ∃ x : Item, d = x.toD := by
  obtain ⟨xs, rfl, g⟩ := shp_struct Try.underlying107 h
  clear h
  obtain ⟨x0, ys0, rfl, h0, g0⟩ := shpL_cons g
  obtain ⟨x1, ys1, rfl, h1, g1⟩ := shpL_cons g0
  obtain ⟨x2, ys2, rfl, h2, g2⟩ := shpL_cons g1
  obtain rfl := shpL_nil g2
  obtain ⟨v0, rfl⟩ := shp_int Try.underlying3 h0
  obtain ⟨v1, rfl⟩ := shp_int Try.underlying3 h1
  obtain ⟨v2, rfl⟩ := shp_str Try.underlying9 h2
  exact ⟨⟨v0, v1, v2⟩, by rw [Item_toD]⟩
end Go.Proofs.Ytekcpadlmfaihaa
