/- append of a whole slice onto a row of the call's own. -/
import Derived.Test.YtecebamhenlnoaaBase
namespace Go.Proofs.Ytecebamhenlnoaa
open Go.RowKit
theorem run_append_of_nil {P : Program} (w : World) (base : Nat) (t ty e : TypeId) (i : TypeInfo) (size : Nat) (ht : P.underlying t = some (.slice e)) (hi : P.info? e = some i)
    (v : Value) (n : Nat) (xs : List Value) (hown : w.ownsRow base e size v n xs) (c : Nat) : (Builtin.append_ #[t, t] ty #[v, .slice none 0 c]).run P w = .ok v w := by
  rcases hown.2 with ⟨rfl, rfl⟩ | ⟨g, cap, cur, rfl, _, _, hnc, _⟩
  · simp [Builtin.append_, run_underlying ht, sizeOf, typeInfo, hi, Builtin.lenOf, Builtin.firstCells]
  · simp [Builtin.append_, run_underlying ht, sizeOf, typeInfo, hi, Builtin.lenOf, Builtin.firstCells, hnc, storeCells]
/-- append of all elements of a slice onto a row of the call's own. -/
theorem wpList_appAll {P : Program} {α : Type} (enc : α → List Value) {size bytes : Nat} {t e : TypeId} (hT : ElemTy P t e size bytes) (henc : ∀ x, (enc x).length = size) (hone : ∀ x, ∀ u ∈ enc x, u.oneCell' = true)
    {ops : Array Oper} {rest : List Oper} {o : Oper} {a : Act} {Q : Exit → Act → World → Prop} {w : World} (hgd : o.guard = none) (sl x : Operand)
    (ho : o.op = .call { callee := .builtin .append, args := #[sl, x], argTypes := #[t, t] })
    (base : Nat) (A : Option Addr) (n c : Nat) (l : List α) (hs : a.eval sl = .slice A n c) (hown : Own enc size e w base A n c l)
    (A2 : Option Addr) (m c2 B : Nat) (l2 : List α) (hx : a.eval x = .slice A2 m c2) (hr : Reads enc size w B A2 m l2)
    (h63 : (n + m) * bytes ≤ 140737488355328) (hn : n + m ≤ maxLen) (hbase : base ≤ w.heap.size)
    (h : ∀ A' c' w', Own enc size e w' base A' (n + m) c' (l ++ l2) → w.grownBy w' (Value.slice A n c).ownBlock → Below base w w' → wpList P ops Q rest (a.put o.dst (.slice A' (n + m) c')) w') : wpList P ops Q (o :: rest) a w := by
  obtain ⟨i, z, ht, hi, hz, h1, h2, h3, h4⟩ := hT.ok
  have hlt := hown.2.lt
  have key : ∃ v' w', (Builtin.append_ #[t, t] o.type #[.slice A n c, .slice A2 m c2]).run P w = .ok v' w' ∧ w'.ownsRow base e size v' (n + m) ((l ++ l2).flatMap enc) ∧ w.grownBy w' (Value.slice A n c).ownBlock := by
    rcases A2 with _ | ad
    · have hm : m = 0 := by
        rcases Nat.eq_zero_or_pos m with h0 | h0
        · exact h0
        · obtain ⟨b, off, h, _⟩ := hr.2 h0
          cases h
      subst hm
      have hl2 : l2 = [] := List.eq_nil_of_length_eq_zero hr.1
      subst hl2
      exact ⟨_, w, run_append_of_nil w base t o.type e i size ht hi _ n _ hown.2 c2, by simpa using hown.2, World.grownBy.refl w _⟩
    · have hcells : ∀ j u, (l2.flatMap enc)[j]? = some u → w.cell? (ad.add j) = some u := by
        intro j u hu
        rcases Nat.eq_zero_or_pos m with h0 | h0
        · subst h0
          have hl2 : l2 = [] := List.eq_nil_of_length_eq_zero hr.1
          subst hl2
          simp at hu
        · obtain ⟨b, off, hA, _, hc⟩ := hr.2 h0
          injection hA with hA
          subst hA
          have hj : j < l2.length * size := by have := (List.getElem?_eq_some_iff.1 hu).1; rwa [flat_length henc] at this
          have hk : j / size < l2.length := by rw [Nat.div_lt_iff_lt_mul (by omega)]; exact hj
          have hx := List.getElem?_eq_getElem hk
          have hjs : j % size < (enc l2[j / size]).length := by rw [henc]; exact Nat.mod_lt _ (by omega)
          have hu' := List.getElem?_eq_getElem hjs
          have h5 := flat_at henc l2 (j / size) (j % size) _ _ hx hu'
          have e1 : j / size * size + j % size = j := by rw [Nat.mul_comm]; exact Nat.div_add_mod j size
          rw [e1, hu] at h5
          have h6 := hc (j / size) _ (j % size) _ hx hu'
          rw [show off + j / size * size + j % size = off + j from by omega] at h6
          rw [show (⟨b, off, none⟩ : Addr).add j = ⟨b, off + j, none⟩ from by unfold Addr.add; split <;> simp_all, h6]
          exact h5.symm
      obtain ⟨v', w', hrun, h5, h6, _⟩ := run_append_own_at (P := P) w base t o.type e i z size bytes ht hi hz h1 h2 h3 h4 _ n _ hown.2 ad m c2 (l2.flatMap enc) (by rw [flat_length henc, hr.1]) hcells
        (by intro u hu; obtain ⟨y, _, hy⟩ := List.mem_flatMap.1 hu; exact hone y u hy) hn h63 hbase
      exact ⟨v', w', hrun, by rw [List.flatMap_append]; exact h5, h6⟩
  obtain ⟨v', w', hrun, h5, h6⟩ := key
  have hb : Below base w w' := (Below.refl _ _).grown h6 hbase (fun k hk => (hlt k hk).1)
  have hll : (l ++ l2).length = n + m := by rw [List.length_append, hown.1, hr.1]
  have hform : ∃ A' c', v' = .slice A' (n + m) c' := by
    rcases h5.2 with ⟨h9, h10⟩ | ⟨g, cap, cur, h9, _⟩
    · exact ⟨none, 0, by rw [h9, h10]⟩
    · exact ⟨_, _, h9⟩
  obtain ⟨A', c', rfl⟩ := hform
  refine wpList_plain hgd fun K hK => ?_
  unfold Oper.wp execOp
  simp only [ho, resolve, invoke, builtin, Sem.run_bind, Sem.run_pure, Result.andThen_ok, List.map_toArray, List.map_cons, List.map_nil, hs, hx, hrun]
  exact hK _ _ (h A' c' w' ⟨hll, h5⟩ h6 hb)
end Go.Proofs.Ytecebamhenlnoaa
