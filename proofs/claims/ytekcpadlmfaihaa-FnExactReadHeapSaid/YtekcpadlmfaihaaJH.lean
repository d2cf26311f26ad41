/- append of a whole slice onto a row of the call's own. A region that draws its order, by an invariant that every operation keeps. Copies of lists: what copyTexts and copyItems return. Copies of vectors: what copyVector returns. Operations of a region that draws its order, taken first one by one: the state stays written out. -/
import Derived.Test.YtekcpadlmfaihaaJA
import Derived.Test.YtekcpadlmfaihaaJG
import Derived.Deep.RegionHeld3
import Derived.Test.YtekcpadlmfaihaaJD
import Derived.Deep.DeepCutAuto
import Derived.Deep.RegionLaw
set_option linter.unusedSimpArgs false
set_option linter.unusedVariables false
namespace Go.Proofs.Ytekcpadlmfaihaa
open Go.RowKit
theorem run_append_of_nil {P : Program} (w : World) (base : Nat) (t ty e : TypeId) (i : TypeInfo) (size : Nat) (ht : P.underlying t = some (.slice e)) (hi : P.info? e = some i)
    (v : Value) (n : Nat) (xs : List Value) (hown : w.ownsRow base e size v n xs) (c : Nat) : (Builtin.append_ #[t, t] ty #[v, .slice none 0 c]).run P w = .ok v w := by
  rcases hown.2 with ⟨rfl, rfl⟩ | ⟨g, cap, cur, rfl, _, _, hnc, _⟩
  · simp [Builtin.append_, run_underlying ht, sizeOf, typeInfo, hi, Builtin.lenOf, Builtin.firstCells]
  · simp [Builtin.append_, run_underlying ht, sizeOf, typeInfo, hi, Builtin.lenOf, Builtin.firstCells, hnc, storeCells]
/-- append of all elements of a slice onto a row of the call's own. -/
theorem wpList_appAll {P : Program} {α : Type} (enc : α → List Value) {size bytes : Nat} {t e : TypeId} (hT : ElemTy P t e size bytes) (henc : ∀ x, (enc x).length = size) (hone : ∀ x, ∀ u ∈ enc x, u.oneCell' = true)
    {ops : Array Oper} {rest : List Oper} {o : Oper} {a : Act} {Q : Exit → Act → World → Prop} {w : World} (hgd : o.guard = none) (sl x : Operand)
    (ho : o.op = .call { callee := .builtin .append, args := #[sl, x], argTypes := #[t, t] })
    (base : Nat) (A : Option Addr) (n c : Nat) (l : List α) (hs : a.eval sl = .slice A n c) (hown : Own enc size e w base A n c l)
    (A2 : Option Addr) (m c2 B : Nat) (l2 : List α) (hx : a.eval x = .slice A2 m c2) (hr : Reads enc size w B A2 m l2)
    (h63 : (n + m) * bytes ≤ 140737488355328) (hn : n + m ≤ maxLen) (hbase : base ≤ w.heap.size)
    (h : ∀ A' c' w', Own enc size e w' base A' (n + m) c' (l ++ l2) → w.grownBy w' (Value.slice A n c).ownBlock → Below base w w' → wpList P ops Q rest (a.put o.dst (.slice A' (n + m) c')) w') : wpList P ops Q (o :: rest) a w := by
  obtain ⟨i, z, ht, hi, hz, h1, h2, h3, h4⟩ := hT.ok
  have hlt := hown.2.lt
  have key : ∃ v' w', (Builtin.append_ #[t, t] o.type #[.slice A n c, .slice A2 m c2]).run P w = .ok v' w' ∧ w'.ownsRow base e size v' (n + m) ((l ++ l2).flatMap enc) ∧ w.grownBy w' (Value.slice A n c).ownBlock := by
    rcases A2 with _ | ad
    · have hm : m = 0 := by
        rcases Nat.eq_zero_or_pos m with h0 | h0
        · exact h0
        · obtain ⟨b, off, h, _⟩ := hr.2 h0
          cases h
      subst hm
      have hl2 : l2 = [] := List.eq_nil_of_length_eq_zero hr.1
      subst hl2
      exact ⟨_, w, run_append_of_nil w base t o.type e i size ht hi _ n _ hown.2 c2, by simpa using hown.2, World.grownBy.refl w _⟩
    · have hcells : ∀ j u, (l2.flatMap enc)[j]? = some u → w.cell? (ad.add j) = some u := by
        intro j u hu
        rcases Nat.eq_zero_or_pos m with h0 | h0
        · subst h0
          have hl2 : l2 = [] := List.eq_nil_of_length_eq_zero hr.1
          subst hl2
          simp at hu
        · obtain ⟨b, off, hA, _, hc⟩ := hr.2 h0
          injection hA with hA
          subst hA
          have hj : j < l2.length * size := by have := (List.getElem?_eq_some_iff.1 hu).1; rwa [flat_length henc] at this
          have hk : j / size < l2.length := by rw [Nat.div_lt_iff_lt_mul (by omega)]; exact hj
          have hx := List.getElem?_eq_getElem hk
          have hjs : j % size < (enc l2[j / size]).length := by rw [henc]; exact Nat.mod_lt _ (by omega)
          have hu' := List.getElem?_eq_getElem hjs
          have h5 := flat_at henc l2 (j / size) (j % size) _ _ hx hu'
          have e1 : j / size * size + j % size = j := by rw [Nat.mul_comm]; exact Nat.div_add_mod j size
          rw [e1, hu] at h5
          have h6 := hc (j / size) _ (j % size) _ hx hu'
          rw [show off + j / size * size + j % size = off + j from by omega] at h6
          rw [show (⟨b, off, none⟩ : Addr).add j = ⟨b, off + j, none⟩ from by unfold Addr.add; split <;> simp_all, h6]
          exact h5.symm
      obtain ⟨v', w', hrun, h5, h6, _⟩ := run_append_own_at (P := P) w base t o.type e i z size bytes ht hi hz h1 h2 h3 h4 _ n _ hown.2 ad m c2 (l2.flatMap enc) (by rw [flat_length henc, hr.1]) hcells
        (by intro u hu; obtain ⟨y, _, hy⟩ := List.mem_flatMap.1 hu; exact hone y u hy) hn h63 hbase
      exact ⟨v', w', hrun, by rw [List.flatMap_append]; exact h5, h6⟩
  obtain ⟨v', w', hrun, h5, h6⟩ := key
  have hb : Below base w w' := (Below.refl _ _).grown h6 hbase (fun k hk => (hlt k hk).1)
  have hll : (l ++ l2).length = n + m := by rw [List.length_append, hown.1, hr.1]
  have hform : ∃ A' c', v' = .slice A' (n + m) c' := by
    rcases h5.2 with ⟨h9, h10⟩ | ⟨g, cap, cur, h9, _⟩
    · exact ⟨none, 0, by rw [h9, h10]⟩
    · exact ⟨_, _, h9⟩
  obtain ⟨A', c', rfl⟩ := hform
  refine wpList_plain hgd fun K hK => ?_
  unfold Oper.wp execOp
  simp only [ho, resolve, invoke, builtin, Sem.run_bind, Sem.run_pure, Result.andThen_ok, List.map_toArray, List.map_cons, List.map_nil, hs, hx, hrun]
  exact hK _ _ (h A' c' w' ⟨hll, h5⟩ h6 hb)
end Go.Proofs.Ytekcpadlmfaihaa
namespace Go.Proofs.Ytekcpadlmfaihaa
open Go.RowKit
def unl (l : Array Bool) : Nat := (l.toList.filter fun b => !b).length
theorem unl_set {l : List Bool} {i : Nat} (h : l[i]? = some false) : ((l.set i true).filter fun b => !b).length + 1 = (l.filter fun b => !b).length := by
  induction l generalizing i with
  | nil => simp at h
  | cons a t ih =>
    cases i with
    | zero => simp at h; subst h; simp
    | succ i =>
      simp at h
      have := ih h
      cases a <;> simp [this]
theorem unl_pos {l : List Bool} {i : Nat} (h : l[i]? = some false) : 0 < (l.filter fun b => !b).length := by have := unl_set h; omega
/-- Every operation waits for earlier ones alone. -/
def backB (ops : Array Oper) : Bool := (List.range ops.size).all fun i => ((ops[i]?).map fun o => o.after.all fun e => decide (e.on < i)).getD true
theorem backB_spec {ops : Array Oper} (h : backB ops = true) {i : Nat} {o : Oper} (ho : ops[i]? = some o) : ∀ e ∈ o.after, e.on < i := by
  unfold backB at h
  rw [List.all_eq_true] at h
  have := h i (List.mem_range.2 (Array.getElem?_eq_some_iff.1 ho).1)
  rw [ho] at this
  simp only [Option.map_some, Option.getD_some, Array.all_eq_true_iff_forall_mem, decide_eq_true_eq] at this
  exact this
theorem ready_nil {ops : Array Oper} {md : Region.Mode} {l : Array Bool} (hb : backB ops = true) (hz : l.size = ops.size) (hr : Region.ready md ops l = []) : ∀ i, i < ops.size → l[i]? = some true := by
  intro i
  induction i using Nat.strongRecOn with
  | ind i ih =>
    intro hi
    have hl : i < l.size := by omega
    cases hli : l[i] with
    | true => simp [hl, hli]
    | false =>
      exfalso
      have : i ∈ Region.ready md ops l := mem_ready.2 ⟨by simp [hl, hli], ops[i], by simp [hi], fun e he _ => by
        have h1 := backB_spec hb (show ops[i]? = some ops[i] by simp [hi]) e he
        have h2 := ih e.on h1 (by omega)
        have h3 : e.on < l.size := by omega
        simp [h3] at h2 ⊢
        exact h2⟩
      rw [hr] at this
      simp at this
section
variable {P : Program} {ops : Array Oper} {Q : Exit → Act → World → Prop} {md : Region.Mode} {S : World → Prop}
/-- Whatever order is picked: an invariant that each operation keeps, and that ends well. -/
theorem wpAnyH_inv (I : Array Bool → Act → World → Prop) (hz : ∀ l a w, I l a w → l.size = ops.size) (hSI : ∀ l a w, I l a w → S w)
    (hst : ∀ i o l a w, ops[i]? = some o → l[i]? = some false → (∀ e ∈ o.after, Region.binds md e = true → l.getD e.on false = true) → I l a w →
      ∀ K : Act → World → Prop, (∀ a' w', I (l.setIfInBounds i true) a' w' → K a' w') → if Region.wanted o (yielded ops a.tmps) = true then Oper.wp P o a w K Q else K (a.put o.dst undef) w)
    (hbk : backB ops = true) (hend : ∀ l a w, I l a w → (∀ i, i < ops.size → l[i]? = some true) → Q .normal a w) :
    ∀ fuel l a w, unl l ≤ fuel → I l a w → wpAnyH P md ops Q S fuel l a w := by
  intro fuel
  induction fuel with
  | zero =>
    intro l a w hu hI
    have hr : Region.ready md ops l = [] := by
      rw [List.eq_nil_iff_forall_not_mem]
      intro i hi
      obtain ⟨h1, o, h2, _⟩ := mem_ready.1 hi
      have hlt : i < l.size := by rw [hz l a w hI]; exact (Array.getElem?_eq_some_iff.1 h2).1
      have h3 : l.toList[i]? = some false := by
        simp [hlt] at h1
        simp [hlt, h1]
      have := unl_pos h3
      unfold unl at hu
      omega
    exact ⟨hr, hend l a w hI (ready_nil hbk (hz l a w hI) hr)⟩
  | succ fuel ih =>
    intro l a w hu hI
    refine ⟨fun hr => hend l a w hI (ready_nil hbk (hz l a w hI) hr), fun i hi => ?_⟩
    obtain ⟨h1, o, h2, h4⟩ := mem_ready.1 hi
    have hlt : i < l.size := by rw [hz l a w hI]; exact (Array.getElem?_eq_some_iff.1 h2).1
    have h3 : l[i]? = some false := by
      simp [hlt] at h1
      simp [hlt, h1]
    refine wpOp_step h2 fun K' hK => ?_
    refine hst i o l a w h2 h3 (fun e he hb => h4 e he hb) hI K' fun a' w' hI' => hK a' w' ⟨hSI _ _ _ hI', ih _ a' w' ?_ hI'⟩
    have h5 : l.toList[i]? = some false := by simpa using h3
    have := unl_set h5
    unfold unl at hu ⊢
    rw [Array.toList_setIfInBounds]
    omega
end
/-! A pair of operations: an empty slice is made, and all of another is appended. -/
def pr (P : Program) (w : World) (xs : List D) (t : TypeId) (bS bA : Bool) (uS uA : Value) (F : List Nat) : Prop :=
  match bS, bA with
  | false, false => F = []
  | true, false => ∃ g, uS = .slice (some ⟨g, 0, none⟩) 0 0 ∧ own P w (.sl []) t F [.slice (some ⟨g, 0, none⟩) 0 0]
  | true, true => ∃ A n c, uA = .slice A n c ∧ own P w (.sl xs) t F [.slice A n c]
  | false, true => False
/-- One operation that gives a datum. -/
def sg (P : Program) (w : World) (d : D) (t : TypeId) (b : Bool) (u : Value) (F : List Nat) : Prop :=
  match b with
  | false => F = []
  | true => own P w d t F [u]
theorem pr_mod {P : Program} {w w' : World} {xs : List D} {t : TypeId} {bS bA : Bool} {uS uA : Value} {F G : List Nat} (h : pr P w xs t bS bA uS uA F) (hm : Mod G w w') (hd : ∀ g ∈ F, g ∉ G) : pr P w' xs t bS bA uS uA F := by
  cases bS <;> cases bA
  · exact h
  · exact h
  · obtain ⟨g, h1, h2⟩ := h; exact ⟨g, h1, own_mod h2 hm hd⟩
  · obtain ⟨A, n, c, h1, h2⟩ := h; exact ⟨A, n, c, h1, own_mod h2 hm hd⟩
theorem sg_mod {P : Program} {w w' : World} {d : D} {t : TypeId} {b : Bool} {u : Value} {F G : List Nat} (h : sg P w d t b u F) (hm : Mod G w w') (hd : ∀ g ∈ F, g ∉ G) : sg P w' d t b u F := by
  cases b
  · exact h
  · exact own_mod (show own P w d t F [u] from h) hm hd
theorem Fresh.mid {B C : Nat} {X Y Z Y' : List Nat} (h : Fresh B (X ++ (Y ++ Z))) (hl : Lo C (X ++ (Y ++ Z))) (hB : B ≤ C) (hn : Y'.Nodup) (hy : ∀ x ∈ Y', x ∈ Y ∨ C ≤ x) : Fresh B (X ++ (Y' ++ Z)) := by
  obtain ⟨n1, n2, n3⟩ := List.nodup_append.1 h.1
  obtain ⟨m1, m2, m3⟩ := List.nodup_append.1 n2
  refine ⟨List.nodup_append.2 ⟨n1, List.nodup_append.2 ⟨hn, m2, ?_⟩, ?_⟩, ?_⟩
  · intro a ha b hb e
    subst e
    rcases hy a ha with h1 | h1
    · exact m3 a h1 a hb rfl
    · have := hl a (by simp [hb]); omega
  · intro a ha b hb e
    subst e
    rcases List.mem_append.1 hb with hb | hb
    · rcases hy a hb with h1 | h1
      · exact n3 a ha a (by simp [h1]) rfl
      · have := hl a (by simp [ha]); omega
    · exact n3 a ha a (by simp [hb]) rfl
  · intro g hg
    rcases List.mem_append.1 hg with hg | hg
    · exact h.2 g (by simp [hg])
    · rcases List.mem_append.1 hg with hg | hg
      · rcases hy g hg with h1 | h1
        · exact h.2 g (by simp [h1])
        · omega
      · exact h.2 g (by simp [hg])
theorem Lo.mid {C C' : Nat} {X Y Z Y' : List Nat} (h : Lo C (X ++ (Y ++ Z))) (hC : C ≤ C') (hy : Lo C' Y') : Lo C' (X ++ (Y' ++ Z)) := fun g hg => by
  rcases List.mem_append.1 hg with hg | hg
  · exact Nat.lt_of_lt_of_le (h g (by simp [hg])) hC
  · rcases List.mem_append.1 hg with hg | hg
    · exact hy g hg
    · exact Nat.lt_of_lt_of_le (h g (by simp [hg])) hC
theorem Lo.one {C g : Nat} (h : g < C) : Lo C [g] := fun x hx => by simp at hx; omega
theorem Fresh.apart {B : Nat} {X Y Z : List Nat} (h : Fresh B (X ++ (Y ++ Z))) : (∀ g ∈ X, g ∉ Y) ∧ (∀ g ∈ Z, g ∉ Y) := by
  obtain ⟨n1, n2, n3⟩ := List.nodup_append.1 h.1
  obtain ⟨m1, m2, m3⟩ := List.nodup_append.1 n2
  exact ⟨fun g hg hy => n3 g hg g (by simp [hy]) rfl, fun g hg hy => m3 g hy g hg rfl⟩
theorem run_appAll {P : Program} {α : Type} (enc : α → List Value) {size bytes : Nat} {t e ty : TypeId} (hT : ElemTy P t e size bytes) (henc : ∀ x, (enc x).length = size) (hone : ∀ x, ∀ u ∈ enc x, u.oneCell' = true) {w : World}
    (base : Nat) (A : Option Addr) (n c : Nat) (l : List α) (hown : Own enc size e w base A n c l) (A2 : Option Addr) (m c2 B : Nat) (l2 : List α) (hr : Reads enc size w B A2 m l2)
    (h63 : (n + m) * bytes ≤ 140737488355328) (hn : n + m ≤ maxLen) (hbase : base ≤ w.heap.size) :
    ∃ v' w', (Builtin.append_ #[t, t] ty #[.slice A n c, .slice A2 m c2]).run P w = .ok v' w' ∧ w'.ownsRow base e size v' (n + m) ((l ++ l2).flatMap enc) ∧ w.grownBy w' (Value.slice A n c).ownBlock ∧ (v'.ownBlock = (Value.slice A n c).ownBlock ∨ v'.ownBlock = some w.heap.size) := by
  obtain ⟨i, z, ht, hi, hz, h1, h2, h3, h4⟩ := hT.ok
  rcases A2 with _ | ad
  · have hm : m = 0 := by
      rcases Nat.eq_zero_or_pos m with h0 | h0
      · exact h0
      · obtain ⟨b, off, h, _⟩ := hr.2 h0
        cases h
    subst hm
    have hl2 : l2 = [] := List.eq_nil_of_length_eq_zero hr.1
    subst hl2
    exact ⟨_, w, run_append_of_nil w base t ty e i size ht hi _ n _ hown.2 c2, by simpa using hown.2, World.grownBy.refl w _, .inl rfl⟩
  · have hcells : ∀ j u, (l2.flatMap enc)[j]? = some u → w.cell? (ad.add j) = some u := by
      intro j u hu
      rcases Nat.eq_zero_or_pos m with h0 | h0
      · subst h0
        have hl2 : l2 = [] := List.eq_nil_of_length_eq_zero hr.1
        subst hl2
        simp at hu
      · obtain ⟨b, off, hA, _, hc⟩ := hr.2 h0
        injection hA with hA
        subst hA
        have hj : j < l2.length * size := by have := (List.getElem?_eq_some_iff.1 hu).1; rwa [flat_length henc] at this
        have hk : j / size < l2.length := by rw [Nat.div_lt_iff_lt_mul (by omega)]; exact hj
        have hx := List.getElem?_eq_getElem hk
        have hjs : j % size < (enc l2[j / size]).length := by rw [henc]; exact Nat.mod_lt _ (by omega)
        have hu' := List.getElem?_eq_getElem hjs
        have h5 := flat_at henc l2 (j / size) (j % size) _ _ hx hu'
        have e1 : j / size * size + j % size = j := by rw [Nat.mul_comm]; exact Nat.div_add_mod j size
        rw [e1, hu] at h5
        have h6 := hc (j / size) _ (j % size) _ hx hu'
        rw [show off + j / size * size + j % size = off + j from by omega] at h6
        rw [show (⟨b, off, none⟩ : Addr).add j = ⟨b, off + j, none⟩ from by unfold Addr.add; split <;> simp_all, h6]
        exact h5.symm
    obtain ⟨v', w', hrun, h5, h6, _, h8⟩ := run_append_own_at (P := P) w base t ty e i z size bytes ht hi hz h1 h2 h3 h4 _ n _ hown.2 ad m c2 (l2.flatMap enc) (by rw [flat_length henc, hr.1]) hcells
      (by intro u hu; obtain ⟨y, _, hy⟩ := List.mem_flatMap.1 hu; exact hone y u hy) hn h63 hbase
    exact ⟨v', w', hrun, by rw [List.flatMap_append]; exact h5, h6, h8⟩
/-- append of all of a slice of flat data onto an empty one, in a region that draws its order. -/
theorem step_appAll {P : Program} {α : Type} {f : α → D} (enc : α → List Value) {size bytes : Nat} {t e : TypeId} (hT : ElemTy P t e size bytes) (hsz : P.cellsOf e = size) (henc : ∀ x, (enc x).length = size) (hone : ∀ x, ∀ u ∈ enc x, u.oneCell' = true)
    {ops : Array Oper} {o : Oper} {a : Act} {Q : Exit → Act → World → Prop} {K : Act → World → Prop} {E : Prop} {w : World} (hgd : o.guard = none) (sl x : Operand)
    (ho : o.op = .call { callee := .builtin .append, args := #[sl, x], argTypes := #[t, t] }) {g : Nat} {F : List Nat} (hs : a.eval sl = .slice (some ⟨g, 0, none⟩) 0 0) (hown : own P w (.sl []) t F [.slice (some ⟨g, 0, none⟩) 0 0])
    (A2 : Option Addr) (m c2 B : Nat) (l2 : List α) (hx : a.eval x = .slice A2 m c2) (hr : Reads enc size w B A2 m l2) (hfl : ∀ x ∈ l2, ∀ w', own P w' (f x) e [] (enc x))
    (h63 : m * bytes ≤ 140737488355328) (hn : m ≤ maxLen)
    (h : ∀ A' c' w' F', own P w' (.sl (l2.map f)) t F' [.slice A' m c'] → (F'.Nodup ∧ ∀ x ∈ F', x ∈ F ∨ w.heap.size ≤ x) → Mod F w w' → K (a.put o.dst (.slice A' m c')) w') :
    if Region.wanted o (yielded ops a.tmps) = true then Oper.wp P o a w K Q else E := by
  obtain ⟨i, z, ht, hi, hz, h1, h2, h3, h4⟩ := hT.ok
  have hown' := hown
  rw [own] at hown'
  obtain ⟨e', A', n', c', s, rows, F2, k1, k2, he, hm, hO, hF, hA⟩ := hown'
  injection he with he; injection he with e1 e2 e3; subst e1 e2 e3
  rw [ht] at k1; injection k1 with k1; injection k1 with k1; subst k1
  rw [hsz] at k2; subst k2
  rw [ownA] at hA
  obtain ⟨hF2, hrows⟩ := hA
  have hrw : rows = [] := List.map_eq_nil_iff.1 hrows
  subst hrw hF2
  have hF' : F = [g] := by rw [hF]; rfl
  subst hF'
  have hO2 : Own enc size e w 0 (some ⟨g, 0, none⟩) 0 0 ([] : List α) := ⟨rfl, by simpa using hO.2⟩
  obtain ⟨v', w', hrun, q1, q2, q3⟩ := run_appAll (ty := o.type) enc hT henc hone 0 _ 0 0 [] hO2 A2 m c2 B l2 hr (by simpa using h63) (by simpa using hn) (Nat.zero_le _)
  rw [Nat.zero_add, List.nil_append] at q1
  have hform : ∃ A' c', v' = .slice A' m c' ∧ (ablk A' = [g] ∨ ablk A' = [w.heap.size] ∨ ablk A' = []) ∧ c' ≤ maxLen := by
    rcases q1.2 with ⟨h9, h10⟩ | ⟨g', cap, cur, h9, _, _, _, hmx, _⟩
    · exact ⟨none, 0, by rw [h9, h10], .inr (.inr rfl), by unfold maxLen; omega⟩
    · refine ⟨_, _, h9, ?_, hmx⟩
      rw [h9] at q3
      simp only [Value.ownBlock, Option.map_some, Option.some.injEq] at q3
      rcases q3 with q3 | q3
      · left; simp [ablk, q3]
      · right; left; simp [ablk, q3]
  obtain ⟨A', c', rfl, hab, hcm⟩ := hform
  have hO3 : Own enc size e w' 0 A' m c' l2 := ⟨hr.1, q1⟩
  have hres : own P w' (.sl (l2.map f)) t (ablk A') [.slice A' m c'] := own_flat henc ht hsz hO3 hcm (fun x hx => hfl x hx w')
  have hmod : Mod [g] w w' := ⟨⟨q2.os, q2.tape, q2.output⟩, q2.size, fun k hk hn => q2.block k hk (fun e => by simp [Value.ownBlock] at e; exact hn (by simp [e]))⟩
  have hK := h A' c' w' (ablk A') hres ⟨by cases A' <;> simp [ablk], fun x hx => by
    rcases hab with hab | hab | hab <;> rw [hab] at hx
    · exact .inl hx
    · simp at hx; exact .inr (by omega)
    · simp at hx⟩ hmod
  rw [if_pos (by simp [Region.wanted, hgd])]
  unfold Oper.wp execOp
  simp only [ho, resolve, invoke, builtin, Sem.run_bind, Sem.run_pure, Result.andThen_ok, List.map_toArray, List.map_cons, List.map_nil, hs, hx, hrun]
  exact hK
end Go.Proofs.Ytekcpadlmfaihaa
namespace Go.Proofs.Ytekcpadlmfaihaa
open Go.RowKit
theorem tyItem : ElemTy Try.prog 31 101 3 32 := by
  obtain ⟨i0, hi, hz0, hz1, hz2⟩ := info_parts ItemInfo
  exact ⟨i0, _, Try.underlying31, hi, hz0, hz1, hz2, rfl, by omega⟩
theorem own_item {w : World} {e : TypeId} (x : Item) (hx : itOK x) (ht : e = 101) : own Try.prog w x.toD e [] (encItem x) := by
  subst ht
  exact Item_own hx.1 hx.2.1 hx.2.2
theorem ownItems {w : World} {base n c : Nat} {A : Option Addr} {l : List Item} (h : Own encItem 3 101 w base A n c l) (hc : c ≤ maxLen) (hl : ∀ x ∈ l, itOK x) : own Try.prog w (.sl (l.map Item.toD)) 31 (ablk A) [.slice A n c] :=
  own_flat encItem_len Try.underlying31 (by kernel_rfl) h hc (fun x hx => own_item x (hl x hx) rfl)
theorem Own.capm {α : Type} {enc : α → List Value} {s : Nat} {e : TypeId} {w : World} {base n c : Nat} {A : Option Addr} {l : List α} (h : Own enc s e w base A n c l) : c ≤ maxLen := by
  rcases h.cases with ⟨rfl, rfl, rfl, rfl⟩ | ⟨g, rfl⟩
  · unfold maxLen; omega
  · exact h.fil.2
set_option maxHeartbeats 1000000 in
theorem copyTexts_any (l : List Str) (A : Option Addr) (n c : Nat) (w : World) (h : rep w w.heap.size (.sl (l.map .s)) [.slice A n c]) (hz : l.length ≤ 500000000000) :
    Calls Try.prog 104 #[.slice A n c] w (NewSl (l.map .s) 24 w) := by
  obtain ⟨A', n', c', he, h2, h3, h4, h5⟩ := (repS _ _ _ _).1 h
  injection he with he; injection he with e1 e2 e3; subst e1 e2 e3
  rw [h4.len] at hz
  go_enter Try.func104, Try.ntmps104
  go_wp2_with (first | (at_builtin; refine wpList_appAll encS tyStr encS_len encS_one rfl _ _ rfl w.heap.size _ 0 0 [] rfl (Own.new_ (n := 0) encS_len _ [] _ rfl rfl ?_ ?_ ?_) A n c w.heap.size l rfl ?_ ?_ ?_ ?_ ?_; (unfold maxLen; omega); (exact Nat.le_refl _); (rfl); (exact h4.below ((Below.refl _ _).alloc (Nat.le_refl _) _)); (omega); (unfold maxLen; omega); (simp only [wsize_alloc]; omega); intro A5 c5 w5 ho5 hg5 hb5))
  go_ret
  rw [Nat.zero_add, List.nil_append] at ho5
  exact ⟨_, _, _, _, rfl, by simpa using ownStr ho5 ho5.capm h5, Fresh.one (fun g hg => (ho5.lt' g hg).1), ((Below.refl _ _).alloc (Nat.le_refl _) _).trans hb5⟩
set_option maxHeartbeats 1000000 in
theorem copyItems_any (l : List Item) (A : Option Addr) (n c : Nat) (w : World) (h : rep w w.heap.size (.sl (l.map Item.toD)) [.slice A n c]) (hz : l.length ≤ 500000000000) :
    Calls Try.prog 103 #[.slice A n c] w (NewSl (l.map Item.toD) 31 w) := by
  obtain ⟨A', n', c', he, h2, h3, h4, h5⟩ := (repIt _ _ _ _).1 h
  injection he with he; injection he with e1 e2 e3; subst e1 e2 e3
  rw [h4.len] at hz
  go_enter Try.func103, Try.ntmps103
  go_wp2_with (first | (at_builtin; refine wpList_appAll encItem tyItem encItem_len encItem_one rfl _ _ rfl w.heap.size _ 0 0 [] rfl (Own.new_ (n := 0) encItem_len _ [] _ rfl rfl ?_ ?_ ?_) A n c w.heap.size l rfl ?_ ?_ ?_ ?_ ?_; (unfold maxLen; omega); (exact Nat.le_refl _); (rfl); (exact h4.below ((Below.refl _ _).alloc (Nat.le_refl _) _)); (omega); (unfold maxLen; omega); (simp only [wsize_alloc]; omega); intro A5 c5 w5 ho5 hg5 hb5))
  go_ret
  rw [Nat.zero_add, List.nil_append] at ho5
  exact ⟨_, _, _, _, rfl, by simpa using ownItems ho5 ho5.capm h5, Fresh.one (fun g hg => (ho5.lt' g hg).1), ((Below.refl _ _).alloc (Nat.le_refl _) _).trans hb5⟩
end Go.Proofs.Ytekcpadlmfaihaa
namespace Go.Proofs.Ytekcpadlmfaihaa
open Go.RowKit
/-- What the first statement leaves: a new box with the copies. -/
def cvR (v : Vec) (w W0 : World) (s3 : Value) (wx : World) : Prop := ∃ (g : Nat) (A1 : Option Addr) (n1 c1 : Nat) (A2 : Option Addr) (n2 c2 : Nat) (A3 : Option Addr) (n3 c3 : Nat) (A4 : Option Addr) (n4 c4 : Nat) (F1 F2 F3 F4 : List Nat), s3 = .pointer (some ⟨g, 0, none⟩) ∧ Blk wx g 34 [.int .i64 v.kind, .slice A1 n1 c1, .slice none 0 0, .slice A2 n2 c2, .slice A3 n3 c3, .slice A4 n4 c4, .int .i64 v.code, .int .i64 v.env] ∧
  own Try.prog wx (.sl (v.items.map Item.toD)) 31 F1 [.slice A1 n1 c1] ∧ own Try.prog wx (.sl (v.names.map .s)) 24 F2 [.slice A2 n2 c2] ∧ own Try.prog wx (.sl (v.cls.map .s)) 24 F3 [.slice A3 n3 c3] ∧ own Try.prog wx (.sl (v.levels.map .s)) 24 F4 [.slice A4 n4 c4] ∧ Fresh W0.heap.size (g :: (F1 ++ (F2 ++ (F3 ++ F4)))) ∧ Below W0.heap.size W0 wx
theorem tyVector : ElemTy Try.prog 32 34 8 144 := by
  obtain ⟨i0, hi, hz0, hz1, hz2⟩ := info_parts VectorInfo
  exact ⟨i0, _, Try.underlying32, hi, hz0, hz1, hz2, rfl, by omega⟩
/-- The loop over the parts. -/
def cvL (v : Vec) (W0 : World) (np g : Nat) (A1 : Option Addr) (n1 c1 : Nat) (A2 : Option Addr) (n2 c2 : Nat) (A3 : Option Addr) (n3 c3 : Nat) (A4 : Option Addr) (n4 c4 : Nat) (F1 F2 F3 F4 : List Nat) (i : Value) (wr : World) : Prop :=
  ∃ (k : Nat) (Ao : Option Addr) (co : Nat) (FP : List Nat), k ≤ np ∧ i = .int .i64 k ∧ Blk wr g 34 [.int .i64 v.kind, .slice A1 n1 c1, .slice Ao k co, .slice A2 n2 c2, .slice A3 n3 c3, .slice A4 n4 c4, .int .i64 v.code, .int .i64 v.env] ∧
  own Try.prog wr (.sl ((v.parts.take k).map Vec.toD)) 32 FP [.slice Ao k co] ∧
  own Try.prog wr (.sl (v.items.map Item.toD)) 31 F1 [.slice A1 n1 c1] ∧ own Try.prog wr (.sl (v.names.map .s)) 24 F2 [.slice A2 n2 c2] ∧ own Try.prog wr (.sl (v.cls.map .s)) 24 F3 [.slice A3 n3 c3] ∧ own Try.prog wr (.sl (v.levels.map .s)) 24 F4 [.slice A4 n4 c4] ∧ Fresh W0.heap.size (FP ++ (g :: (F1 ++ (F2 ++ (F3 ++ F4))))) ∧ Below W0.heap.size W0 wr
theorem own_nil {P : Program} {w : World} {t e : TypeId} (h : P.underlying t = some (.slice e)) : own P w (.sl []) t [] [.slice none 0 0] := by
  rw [own]
  exact ⟨e, none, 0, 0, P.cellsOf e, [], [], h, rfl, rfl, by unfold maxLen; omega, Own.nil_, rfl, by rw [List.map_nil, ownA]; exact ⟨rfl, rfl⟩⟩
theorem own_len {P : Program} {w : World} {xs : List D} {t : TypeId} {F : List Nat} {A : Option Addr} {n c : Nat} (h : own P w (.sl xs) t F [.slice A n c]) : xs.length = n := (rep_sl_len (own_rep _ _ _ _ h)).1
def cpP (v : Vec) : Prop := ∀ (cs : List Value) (w : World), rep w w.heap.size v.toD cs → szD v.toD ≤ 500000000000 → Calls Try.prog 85 #[.agg cs.toArray] w (NewSt v.toD 34 w)
set_option maxRecDepth 100000 in
set_option maxHeartbeats 8000000 in
theorem copyVector_of (v : Vec) (ih : ∀ y ∈ v.parts, cpP y) : cpP v := by
  intro cs w h hz
  obtain ⟨Ai, ni, ci, Ap, np, cp, An, nn, cn, Ac, nc, cc, Al, nl, cl, rfl, wk, ri, rp, rn, rc, rl, wc, we⟩ := Vector_open h
  have hvs := Vector_sz v
  simp only [szD, List.length_map] at hvs
  have q0 := ((Below.refl w.heap.size w).alloc (Nat.le_refl _) (.cells #[.int .i64 v.kind, .slice Ai ni ci, .slice Ap np cp, .slice An nn cn, .slice Ac nc cc, .slice Al nl cl, .int .i64 v.code, .int .i64 v.env] 34)).alloc (by simp only [wsize_alloc]; omega) (.cells #[.int .i64 0, .slice none 0 0, .slice none 0 0, .slice none 0 0, .slice none 0 0, .slice none 0 0, .int .i64 0, .int .i64 0] 34)
  have kA := Blk.new_ w 34 #[.int .i64 v.kind, .slice Ai ni ci, .slice Ap np cp, .slice An nn cn, .slice Ac nc cc, .slice Al nl cl, .int .i64 v.code, .int .i64 v.env]
  have kA := kA.next ((Below.refl _ _).alloc (Nat.le_refl _) (.cells #[.int .i64 0, .slice none 0 0, .slice none 0 0, .slice none 0 0, .slice none 0 0, .slice none 0 0, .int .i64 0, .int .i64 0] 34))
  have kR := Blk.new_ (w.alloc (.cells #[.int .i64 v.kind, .slice Ai ni ci, .slice Ap np cp, .slice An nn cn, .slice Ac nc cc, .slice Al nl cl, .int .i64 v.code, .int .i64 v.env] 34)) 34 #[.int .i64 0, .slice none 0 0, .slice none 0 0, .slice none 0 0, .slice none 0 0, .slice none 0 0, .int .i64 0, .int .i64 0]
  have s0 : ((w.alloc (.cells #[.int .i64 v.kind, .slice Ai ni ci, .slice Ap np cp, .slice An nn cn, .slice Ac nc cc, .slice Al nl cl, .int .i64 v.code, .int .i64 v.env] 34)).alloc (.cells #[.int .i64 0, .slice none 0 0, .slice none 0 0, .slice none 0 0, .slice none 0 0, .slice none 0 0, .int .i64 0, .int .i64 0] 34)).heap.size = w.heap.size + 1 + 1 := by simp only [wsize_alloc]
  simp only [wsize_alloc] at kR
  go_enter Try.func85, Try.ntmps85
  go_upto_region 1 with fail
  generalize (w.alloc (.cells #[.int .i64 v.kind, .slice Ai ni ci, .slice Ap np cp, .slice An nn cn, .slice Ac nc cc, .slice Al nl cl, .int .i64 v.code, .int .i64 v.env] 34)).alloc (.cells #[.int .i64 0, .slice none 0 0, .slice none 0 0, .slice none 0 0, .slice none 0 0, .slice none 0 0, .int .i64 0, .int .i64 0] 34) = W0 at q0 kA kR s0 ⊢
  have kA : Blk W0 w.heap.size 34 [.int .i64 v.kind, .slice Ai ni ci, .slice Ap np cp, .slice An nn cn, .slice Ac nc cc, .slice Al nl cl, .int .i64 v.code, .int .i64 v.env] := kA
  have hW0 : w.heap.size + 1 < W0.heap.size := by omega
  have S0 := Lib.hid s0
  clear s0
  have f1 := rep_in ri q0 q0.size
  have f2 := rep_in rn q0 q0.size
  have f3 := rep_in rc q0 q0.size
  have f4 := rep_in rl q0 q0.size
  go_cut [3] (fun s3 wx => cvR v w W0 s3 wx)
  case first =>
    go_region_held3 (fun W => W.cell? ⟨w.heap.size, 0, none⟩ = some (.int .i64 v.kind) ∧ W.cell? ⟨w.heap.size, 1, none⟩ = some (.slice Ai ni ci) ∧ W.cell? ⟨w.heap.size, 2, none⟩ = some (.slice Ap np cp) ∧ W.cell? ⟨w.heap.size, 3, none⟩ = some (.slice An nn cn) ∧ W.cell? ⟨w.heap.size, 4, none⟩ = some (.slice Ac nc cc) ∧ W.cell? ⟨w.heap.size, 5, none⟩ = some (.slice Al nl cl) ∧ W.cell? ⟨w.heap.size, 6, none⟩ = some (.int .i64 v.code) ∧ W.cell? ⟨w.heap.size, 7, none⟩ = some (.int .i64 v.env))
      (first | (refine Blk.c8 (t := 34) ?_; (repeat' (first | with_reducible assumption | with_reducible exact Blk.new' | with_reducible exact Blk.newd | with_reducible apply Blk.set8 | (with_reducible refine Blk.pk ?_ ?_; ((try simp only [wsize_drew, wsize_alloc, wsize_set]); omega)) | with_reducible refine Blk.dw ?_ | with_reducible refine Blk.al ?_ | with_reducible refine Blk.next ?_ (by with_reducible assumption))); done) | go_keep)
      (first | (go_at_call 103; refine (copyItems_any v.items _ _ _ _ (by (repeat' (first | with_reducible assumption | with_reducible refine rep_dw ?_ | with_reducible refine rep_al ?_ | with_reducible refine rep_next ?_ (by with_reducible assumption)))) (by omega)).mono ?_; rintro e w1 ⟨A1, n1, c1, G1, rfl, o1, fr1, b1⟩; obtain ⟨hc1, hf1⟩ := bcell b1; have z1 := b1.size; have l1 := own_lo o1; (try simp only [wsize_drew, wsize_alloc, wsize_set] at hc1 hf1 z1 fr1); (try (have y01 : W0.heap.size < w1.heap.size := by omega))) | (go_at_call_of 104 (Value.slice An nn cn); refine (copyTexts_any v.names _ _ _ _ (by (repeat' (first | with_reducible assumption | with_reducible refine rep_dw ?_ | with_reducible refine rep_al ?_ | with_reducible refine rep_next ?_ (by with_reducible assumption)))) (by omega)).mono ?_; rintro e w2 ⟨A2, n2, c2, G2, rfl, o2, fr2, b2⟩; obtain ⟨hc2, hf2⟩ := bcell b2; have z2 := b2.size; have l2 := own_lo o2; (try simp only [wsize_drew, wsize_alloc, wsize_set] at hc2 hf2 z2 fr2); (try (have y12 : w1.heap.size < w2.heap.size := by omega)); (try (have y02 : W0.heap.size < w2.heap.size := by omega))) | (go_at_call_of 104 (Value.slice Ac nc cc); refine (copyTexts_any v.cls _ _ _ _ (by (repeat' (first | with_reducible assumption | with_reducible refine rep_dw ?_ | with_reducible refine rep_al ?_ | with_reducible refine rep_next ?_ (by with_reducible assumption)))) (by omega)).mono ?_; rintro e w3 ⟨A3, n3, c3, G3, rfl, o3, fr3, b3⟩; obtain ⟨hc3, hf3⟩ := bcell b3; have z3 := b3.size; have l3 := own_lo o3; (try simp only [wsize_drew, wsize_alloc, wsize_set] at hc3 hf3 z3 fr3); (try (have y23 : w2.heap.size < w3.heap.size := by omega)); (try (have y13 : w1.heap.size < w3.heap.size := by omega)); (try (have y03 : W0.heap.size < w3.heap.size := by omega))) | (go_at_call_of 104 (Value.slice Al nl cl); refine (copyTexts_any v.levels _ _ _ _ (by (repeat' (first | with_reducible assumption | with_reducible refine rep_dw ?_ | with_reducible refine rep_al ?_ | with_reducible refine rep_next ?_ (by with_reducible assumption)))) (by omega)).mono ?_; rintro e w4 ⟨A4, n4, c4, G4, rfl, o4, fr4, b4⟩; obtain ⟨hc4, hf4⟩ := bcell b4; have z4 := b4.size; have l4 := own_lo o4; (try simp only [wsize_drew, wsize_alloc, wsize_set] at hc4 hf4 z4 fr4); (try (have y34 : w3.heap.size < w4.heap.size := by omega)); (try (have y24 : w2.heap.size < w4.heap.size := by omega)); (try (have y14 : w1.heap.size < w4.heap.size := by omega)); (try (have y04 : W0.heap.size < w4.heap.size := by omega))))
    all_goals (go_wp2_with fail; go_meet; first | refine ⟨w4.heap.size, A1, n1, c1, A2, n2, c2, A3, n3, c3, A4, n4, c4, G1, G2, G3, G4, rfl, ?_, ?_, ?_, ?_, ?_, ?_, ?_⟩ | refine ⟨w3.heap.size, A1, n1, c1, A2, n2, c2, A3, n3, c3, A4, n4, c4, G1, G2, G3, G4, rfl, ?_, ?_, ?_, ?_, ?_, ?_, ?_⟩ | refine ⟨w2.heap.size, A1, n1, c1, A2, n2, c2, A3, n3, c3, A4, n4, c4, G1, G2, G3, G4, rfl, ?_, ?_, ?_, ?_, ?_, ?_, ?_⟩ | refine ⟨w1.heap.size, A1, n1, c1, A2, n2, c2, A3, n3, c3, A4, n4, c4, G1, G2, G3, G4, rfl, ?_, ?_, ?_, ?_, ?_, ?_, ?_⟩ | refine ⟨W0.heap.size, A1, n1, c1, A2, n2, c2, A3, n3, c3, A4, n4, c4, G1, G2, G3, G4, rfl, ?_, ?_, ?_, ?_, ?_, ?_, ?_⟩)
    all_goals (first | ((repeat' (first | with_reducible exact Fresh.nil | with_reducible refine Fresh.cons ?_ ?_ ?_ | with_reducible refine Fresh.app2 (by with_reducible assumption) ?_ ?_ ?_ | with_reducible refine Fresh.mono (by with_reducible assumption) ?_ | with_reducible exact notin_nil | with_reducible refine notin_app ?_ ?_ | (with_reducible refine Fresh.notin (by with_reducible assumption) ?_; ((try simp only [wsize_drew, wsize_alloc, wsize_set]); omega)) | (with_reducible refine Lo.notin (by with_reducible assumption) ?_; ((try simp only [wsize_drew, wsize_alloc, wsize_set]); omega)) | ((try simp only [wsize_drew, wsize_alloc, wsize_set]); omega))); done) | ((repeat' (first | with_reducible assumption | with_reducible exact Blk.new' | with_reducible exact Blk.newd | with_reducible apply Blk.set8 | (with_reducible refine Blk.pk ?_ ?_; ((try simp only [wsize_drew, wsize_alloc, wsize_set]); omega)) | with_reducible refine Blk.dw ?_ | with_reducible refine Blk.al ?_ | with_reducible refine Blk.next ?_ (by with_reducible assumption))); done) | ((repeat' (first | with_reducible assumption | with_reducible refine own_dw ?_ | with_reducible refine own_al ?_ | with_reducible refine own_pk ?_ ?_ | with_reducible exact notin_nil | with_reducible refine notin_app ?_ ?_ | (with_reducible refine Fresh.notin (by with_reducible assumption) ?_; ((try simp only [wsize_drew, wsize_alloc, wsize_set]); omega)) | (with_reducible refine Lo.notin (by with_reducible assumption) ?_; ((try simp only [wsize_drew, wsize_alloc, wsize_set]); omega)) | with_reducible refine own_below ?_ (by with_reducible assumption))); done) | ((repeat' (first | with_reducible assumption | with_reducible exact Below.refl _ _ | with_reducible refine bel_dw ?_ | with_reducible refine bel_al ?_ ?_ | with_reducible refine bel_set ?_ ?_ | with_reducible refine bel_call ?_ (by with_reducible assumption) ?_ | ((try simp only [wsize_drew, wsize_alloc, wsize_set]); omega))); done))
  case rest =>
    obtain ⟨g, A1, n1, c1, A2, n2, c2, A3, n3, c3, A4, n4, c4, F1, F2, F3, F4, rfl, kg, o1, o2, o3, o4, fr, bb⟩ := hcut
    obtain ⟨W, hW⟩ : ∃ W : World, W = wc := ⟨_, rfl⟩
    subst hW
    have kA1 := (kA.below bb (by omega)).cell 2
    simp only [List.getElem?_cons_zero, List.getElem?_cons_succ] at kA1
    obtain ⟨hpl, hpc, hpm⟩ := rep_sl_len rp
    rw [List.length_map] at hpl
    have hpb : np ≤ 500000000000 := by rw [← hpl]; omega
    have HPL := Lib.hid hpl
    have HIH := Lib.hid ih
    have hgB := fr.2 g List.mem_cons_self
    clear f1 f2 f3 f4 ih hpl hvs
    go_wp2_with fail
    clear kA1
    go_loopw [28] (fun i wr => cvL v W0 np g A1 n1 c1 A2 n2 c2 A3 n3 c3 A4 n4 c4 F1 F2 F3 F4 i wr) (fun i _ => np - (intOf i).toNat)
    case atStart => exact ⟨0, none, 0, [], by omega, rfl, kg, by rw [List.take_zero]; exact own_nil Try.underlying32, o1, o2, o3, o4, fr, bb⟩
    case round =>
      clear kg o1 o2 o3 o4 fr bb
      obtain ⟨k, Ao, co, FP, hk, rfl, kg, oP, o1, o2, o3, o4, fr, bb⟩ := hrel
      have hb := bth q0 bb
      have z0 := bb.size
      have hgl := kg.lt
      by_cases hlt : k < np
      · obtain ⟨b, off, x, Bi, mi, di, Bp, mp, dp, Bn, mn, dn, Bc, mc, dc, Bl, ml, dl, rfl, hbl, hx, hrx, hx0, hx1, hx2, hx3, hx4, hx5, hx6, hx7⟩ := Vector_at (rep_below rp hb) hlt
        have HX := Lib.hid (take_snoc' hx)
        have HM := Lib.hid (List.mem_of_getElem? hx)
        have hsx : szD x.toD ≤ 500000000000 := by
          have := szDs_mem (List.mem_map_of_mem (f := Vec.toD) HM.out)
          have := Vector_sz v
          simp only [szD] at this
          omega
        clear hx
        have kx : Blk (wr.alloc (.cells #[.int .i64 x.kind, .slice Bi mi di, .slice Bp mp dp, .slice Bn mn dn, .slice Bc mc dc, .slice Bl ml dl, .int .i64 x.code, .int .i64 x.env] 34)) wr.heap.size 34 [.int .i64 x.kind, .slice Bi mi di, .slice Bp mp dp, .slice Bn mn dn, .slice Bc mc dc, .slice Bl ml dl, .int .i64 x.code, .int .i64 x.env] := Blk.new'
        have rx := rep_al (o := .cells #[.int .i64 x.kind, .slice Bi mi di, .slice Bp mp dp, .slice Bn mn dn, .slice Bc mc dc, .slice Bl ml dl, .int .i64 x.code, .int .i64 x.env] 34) (rep_more hrx hb.size)
        have kg1 := kg.al (o := .cells #[.int .i64 x.kind, .slice Bi mi di, .slice Bp mp dp, .slice Bn mn dn, .slice Bc mc dc, .slice Bl ml dl, .int .i64 x.code, .int .i64 x.env] 34)
        have zz : wr.heap.size < (wr.alloc (.cells #[.int .i64 x.kind, .slice Bi mi di, .slice Bp mp dp, .slice Bn mn dn, .slice Bc mc dc, .slice Bl ml dl, .int .i64 x.code, .int .i64 x.env] 34)).heap.size := by simp only [wsize_alloc]; omega
        have bb1 := bel_al (o := .cells #[.int .i64 x.kind, .slice Bi mi di, .slice Bp mp dp, .slice Bn mn dn, .slice Bc mc dc, .slice Bl ml dl, .int .i64 x.code, .int .i64 x.env] 34) bb z0
        have oP1 := own_al (o := .cells #[.int .i64 x.kind, .slice Bi mi di, .slice Bp mp dp, .slice Bn mn dn, .slice Bc mc dc, .slice Bl ml dl, .int .i64 x.code, .int .i64 x.env] 34) oP
        have o11 := own_al (o := .cells #[.int .i64 x.kind, .slice Bi mi di, .slice Bp mp dp, .slice Bn mn dn, .slice Bc mc dc, .slice Bl ml dl, .int .i64 x.code, .int .i64 x.env] 34) o1
        have o21 := own_al (o := .cells #[.int .i64 x.kind, .slice Bi mi di, .slice Bp mp dp, .slice Bn mn dn, .slice Bc mc dc, .slice Bl ml dl, .int .i64 x.code, .int .i64 x.env] 34) o2
        have o31 := own_al (o := .cells #[.int .i64 x.kind, .slice Bi mi di, .slice Bp mp dp, .slice Bn mn dn, .slice Bc mc dc, .slice Bl ml dl, .int .i64 x.code, .int .i64 x.env] 34) o3
        have o41 := own_al (o := .cells #[.int .i64 x.kind, .slice Bi mi di, .slice Bp mp dp, .slice Bn mn dn, .slice Bc mc dc, .slice Bl ml dl, .int .i64 x.code, .int .i64 x.env] 34) o4
        go_upto_region 5 with fail
        generalize wr.alloc (.cells #[.int .i64 x.kind, .slice Bi mi di, .slice Bp mp dp, .slice Bn mn dn, .slice Bc mc dc, .slice Bl ml dl, .int .i64 x.code, .int .i64 x.env] 34) = W1 at kx rx kg1 zz bb1 oP1 o11 o21 o31 o41 ⊢
        clear hx0 hx1 hx2 hx3 hx4 hx5 hx6 hx7 hrx kg oP o1 o2 o3 o4 bb hb
        obtain ⟨e0, e1, e2, e3, e4, e5, e6, e7⟩ := kx.c8
        have eg := kg1.cell 2
        simp only [List.getElem?_cons_zero, List.getElem?_cons_succ] at eg
        have zf := kg1.frozen 2
        have lP := own_lo oP1
        have zg : g < W1.heap.size := by omega
        have LL := Lib.hid (lP.app (Lo.cons zg ((own_lo o11).app ((own_lo o21).app ((own_lo o31).app (own_lo o41))))))
        have frP := fr.left
        have dg := fr.dis g List.mem_cons_self
        have ng1 := (List.nodup_cons.1 fr.right.1).1
        simp only [List.mem_append, not_or] at ng1
        obtain ⟨N1, N2, N3, N4⟩ := ng1
        have D1 := Lib.hid (fun y (hy : y ∈ F1) => fr.dis y (by simp [hy]))
        have D2 := Lib.hid (fun y (hy : y ∈ F2) => fr.dis y (by simp [hy]))
        have D3 := Lib.hid (fun y (hy : y ∈ F3) => fr.dis y (by simp [hy]))
        have D4 := Lib.hid (fun y (hy : y ∈ F4) => fr.dis y (by simp [hy]))
        go_region_law (first
          | (go_simp; go_at_call 85; refine (HIH.out x HM.out _ _ (by (repeat' (first | with_reducible assumption | with_reducible refine rep_dw ?_ | with_reducible refine rep_al ?_ | with_reducible refine rep_next ?_ (by with_reducible assumption)))) hsx).mono ?_; rintro e w1 ⟨cs1, G1, rfl, ho1, hG1, hb1⟩; obtain ⟨Ci, ki, ei, Cp, kp, ep, Cn, kn, en, Cc, kc, ec, Cl, kl, el, rfl, _⟩ := Vector_open (own_rep _ _ _ _ ho1); obtain ⟨hc1, hf1⟩ := bcell hb1; have z1 := hb1.size; (try simp only [wsize_drew, wsize_alloc, wsize_set] at hc1 hf1 z1 hG1); have yg : g < w1.heap.size := by omega)
          | (refine step_appD (A := Ao) (n := k) (c := co) (b := w1.heap.size) (m := 1) (xs := (v.parts.take k).map Vec.toD) (F := FP) (d := x.toD) (F' := G1) (te := 34) (cs := [.int .i64 x.kind, .slice Ci ki ei, .slice Cp kp ep, .slice Cn kn en, .slice Cc kc ec, .slice Cl kl el, .int .i64 x.code, .int .i64 x.env]) tyVector ?_ ?_ (.tmp 33) (.tmp 36) ?_ ?_ ?_ ?_ ?_ ?_ ?_ ?_ ?_ ?_ ?_; (kernel_rfl); (rfl); (rfl); (rfl); (focus (repeat' (first | with_reducible assumption | with_reducible refine own_dw ?_ | with_reducible refine own_al ?_ | with_reducible refine own_pk ?_ ?_ | with_reducible exact notin_nil | with_reducible refine notin_app ?_ ?_ | (with_reducible refine Fresh.notin (by with_reducible assumption) ?_; ((try simp only [wsize_drew, wsize_alloc, wsize_set]); omega)) | (with_reducible refine Lo.notin (by with_reducible assumption) ?_; ((try simp only [wsize_drew, wsize_alloc, wsize_set]); omega)) | with_reducible refine own_below ?_ (by with_reducible assumption)))); (rfl); (focus (repeat' (first | with_reducible assumption | with_reducible exact Blk.new' | with_reducible exact Blk.newd | with_reducible apply Blk.set8 | (with_reducible refine Blk.pk ?_ ?_; ((try simp only [wsize_drew, wsize_alloc, wsize_set]); omega)) | with_reducible refine Blk.dw ?_ | with_reducible refine Blk.al ?_ | with_reducible refine Blk.next ?_ (by with_reducible assumption)))); (focus (repeat' (first | with_reducible assumption | with_reducible refine own_dw ?_ | with_reducible refine own_al ?_ | with_reducible refine own_pk ?_ ?_ | with_reducible exact notin_nil | with_reducible refine notin_app ?_ ?_ | (with_reducible refine Fresh.notin (by with_reducible assumption) ?_; ((try simp only [wsize_drew, wsize_alloc, wsize_set]); omega)) | (with_reducible refine Lo.notin (by with_reducible assumption) ?_; ((try simp only [wsize_drew, wsize_alloc, wsize_set]); omega)) | with_reducible refine own_below ?_ (by with_reducible assumption)))); (rfl); (exact (Fresh.app2 lP frP hG1 (by omega)).1); (unfold maxLen; omega); (omega); intro gg cc w2 FP2 oP2 ap2 md2; have kg2 := Blk.mod (t := 34) (cs := [.int .i64 v.kind, .slice A1 n1 c1, .slice Ao k co, .slice A2 n2 c2, .slice A3 n3 c3, .slice A4 n4 c4, .int .i64 v.code, .int .i64 v.env]) (by (repeat' (first | with_reducible assumption | with_reducible exact Blk.new' | with_reducible exact Blk.newd | with_reducible apply Blk.set8 | (with_reducible refine Blk.pk ?_ ?_; ((try simp only [wsize_drew, wsize_alloc, wsize_set]); omega)) | with_reducible refine Blk.dw ?_ | with_reducible refine Blk.al ?_ | with_reducible refine Blk.next ?_ (by with_reducible assumption)))) md2 dg; have eg2 := kg2.cell 2; (simp only [List.getElem?_cons_zero, List.getElem?_cons_succ] at eg2); have zf2 := kg2.frozen 2))
        all_goals
          go_wp2_with fail
          go_roundw
          case rel =>
            have z2 := md2.size
            simp only [wsize_drew, wsize_alloc, wsize_set] at z2
            have ng : g ∉ FP2 := ap2.notin dg hG1.2 (by omega) (by ((try simp only [wsize_drew, wsize_alloc, wsize_set]); omega))
            refine ⟨k + 1, some ⟨gg, 0, none⟩, cc, FP2, by omega, by go_num, ?_, ?_, ?_, ?_, ?_, ?_, ?_, ?_⟩
            · exact kg2.set_ 2 _
            · rw [HX.out, List.map_append, List.map_cons, List.map_nil]
              (repeat' (first | with_reducible assumption | with_reducible refine own_dw ?_ | with_reducible refine own_al ?_ | with_reducible refine own_pk ?_ ?_ | with_reducible exact notin_nil | with_reducible refine notin_app ?_ ?_ | (with_reducible refine Fresh.notin (by with_reducible assumption) ?_; ((try simp only [wsize_drew, wsize_alloc, wsize_set]); omega)) | (with_reducible refine Lo.notin (by with_reducible assumption) ?_; ((try simp only [wsize_drew, wsize_alloc, wsize_set]); omega)) | with_reducible refine own_below ?_ (by with_reducible assumption)))
            · have o12 := own_mod (cs := [.slice A1 n1 c1]) (d := .sl (v.items.map Item.toD)) (t := 31) (P := Try.prog) (G := F1) (by (repeat' (first | with_reducible assumption | with_reducible refine own_dw ?_ | with_reducible refine own_al ?_ | with_reducible refine own_pk ?_ ?_ | with_reducible exact notin_nil | with_reducible refine notin_app ?_ ?_ | (with_reducible refine Fresh.notin (by with_reducible assumption) ?_; ((try simp only [wsize_drew, wsize_alloc, wsize_set]); omega)) | (with_reducible refine Lo.notin (by with_reducible assumption) ?_; ((try simp only [wsize_drew, wsize_alloc, wsize_set]); omega)) | with_reducible refine own_below ?_ (by with_reducible assumption)))) md2 D1.out
              (repeat' (first | with_reducible assumption | with_reducible refine own_dw ?_ | with_reducible refine own_al ?_ | with_reducible refine own_pk ?_ ?_ | with_reducible exact notin_nil | with_reducible refine notin_app ?_ ?_ | (with_reducible refine Fresh.notin (by with_reducible assumption) ?_; ((try simp only [wsize_drew, wsize_alloc, wsize_set]); omega)) | (with_reducible refine Lo.notin (by with_reducible assumption) ?_; ((try simp only [wsize_drew, wsize_alloc, wsize_set]); omega)) | with_reducible refine own_below ?_ (by with_reducible assumption)))
            · have o12 := own_mod (cs := [.slice A2 n2 c2]) (d := .sl (v.names.map .s)) (t := 24) (P := Try.prog) (G := F2) (by (repeat' (first | with_reducible assumption | with_reducible refine own_dw ?_ | with_reducible refine own_al ?_ | with_reducible refine own_pk ?_ ?_ | with_reducible exact notin_nil | with_reducible refine notin_app ?_ ?_ | (with_reducible refine Fresh.notin (by with_reducible assumption) ?_; ((try simp only [wsize_drew, wsize_alloc, wsize_set]); omega)) | (with_reducible refine Lo.notin (by with_reducible assumption) ?_; ((try simp only [wsize_drew, wsize_alloc, wsize_set]); omega)) | with_reducible refine own_below ?_ (by with_reducible assumption)))) md2 D2.out
              (repeat' (first | with_reducible assumption | with_reducible refine own_dw ?_ | with_reducible refine own_al ?_ | with_reducible refine own_pk ?_ ?_ | with_reducible exact notin_nil | with_reducible refine notin_app ?_ ?_ | (with_reducible refine Fresh.notin (by with_reducible assumption) ?_; ((try simp only [wsize_drew, wsize_alloc, wsize_set]); omega)) | (with_reducible refine Lo.notin (by with_reducible assumption) ?_; ((try simp only [wsize_drew, wsize_alloc, wsize_set]); omega)) | with_reducible refine own_below ?_ (by with_reducible assumption)))
            · have o12 := own_mod (cs := [.slice A3 n3 c3]) (d := .sl (v.cls.map .s)) (t := 24) (P := Try.prog) (G := F3) (by (repeat' (first | with_reducible assumption | with_reducible refine own_dw ?_ | with_reducible refine own_al ?_ | with_reducible refine own_pk ?_ ?_ | with_reducible exact notin_nil | with_reducible refine notin_app ?_ ?_ | (with_reducible refine Fresh.notin (by with_reducible assumption) ?_; ((try simp only [wsize_drew, wsize_alloc, wsize_set]); omega)) | (with_reducible refine Lo.notin (by with_reducible assumption) ?_; ((try simp only [wsize_drew, wsize_alloc, wsize_set]); omega)) | with_reducible refine own_below ?_ (by with_reducible assumption)))) md2 D3.out
              (repeat' (first | with_reducible assumption | with_reducible refine own_dw ?_ | with_reducible refine own_al ?_ | with_reducible refine own_pk ?_ ?_ | with_reducible exact notin_nil | with_reducible refine notin_app ?_ ?_ | (with_reducible refine Fresh.notin (by with_reducible assumption) ?_; ((try simp only [wsize_drew, wsize_alloc, wsize_set]); omega)) | (with_reducible refine Lo.notin (by with_reducible assumption) ?_; ((try simp only [wsize_drew, wsize_alloc, wsize_set]); omega)) | with_reducible refine own_below ?_ (by with_reducible assumption)))
            · have o12 := own_mod (cs := [.slice A4 n4 c4]) (d := .sl (v.levels.map .s)) (t := 24) (P := Try.prog) (G := F4) (by (repeat' (first | with_reducible assumption | with_reducible refine own_dw ?_ | with_reducible refine own_al ?_ | with_reducible refine own_pk ?_ ?_ | with_reducible exact notin_nil | with_reducible refine notin_app ?_ ?_ | (with_reducible refine Fresh.notin (by with_reducible assumption) ?_; ((try simp only [wsize_drew, wsize_alloc, wsize_set]); omega)) | (with_reducible refine Lo.notin (by with_reducible assumption) ?_; ((try simp only [wsize_drew, wsize_alloc, wsize_set]); omega)) | with_reducible refine own_below ?_ (by with_reducible assumption)))) md2 D4.out
              (repeat' (first | with_reducible assumption | with_reducible refine own_dw ?_ | with_reducible refine own_al ?_ | with_reducible refine own_pk ?_ ?_ | with_reducible exact notin_nil | with_reducible refine notin_app ?_ ?_ | (with_reducible refine Fresh.notin (by with_reducible assumption) ?_; ((try simp only [wsize_drew, wsize_alloc, wsize_set]); omega)) | (with_reducible refine Lo.notin (by with_reducible assumption) ?_; ((try simp only [wsize_drew, wsize_alloc, wsize_set]); omega)) | with_reducible refine own_below ?_ (by with_reducible assumption)))
            · exact Fresh.repl fr LL.out (by omega) hG1.2 (by ((try simp only [wsize_drew, wsize_alloc, wsize_set]); omega)) ap2
            · have B2 := bel_mod (B := W0.heap.size) (a := W0) (by (repeat' (first | with_reducible assumption | with_reducible exact Below.refl _ _ | with_reducible refine bel_dw ?_ | with_reducible refine bel_al ?_ ?_ | with_reducible refine bel_set ?_ ?_ | with_reducible refine bel_call ?_ (by with_reducible assumption) ?_ | ((try simp only [wsize_drew, wsize_alloc, wsize_set]); omega)))) md2 frP.2 (by ((try simp only [wsize_drew, wsize_alloc, wsize_set]); omega))
              (repeat' (first | with_reducible assumption | with_reducible exact Below.refl _ _ | with_reducible refine bel_dw ?_ | with_reducible refine bel_al ?_ ?_ | with_reducible refine bel_set ?_ ?_ | with_reducible refine bel_call ?_ (by with_reducible assumption) ?_ | ((try simp only [wsize_drew, wsize_alloc, wsize_set]); omega)))
          case measure => simp [intOf]; omega
      · have hkk : k = np := by omega
        subst hkk
        have kR : Blk W0 (w.heap.size + 1) 34 [.int .i64 0, .slice none 0 0, .slice none 0 0, .slice none 0 0, .slice none 0 0, .slice none 0 0, .int .i64 0, .int .i64 0] := kR
        have kR1 := kR.below bb (by omega)
        obtain ⟨r0, r1, r2, r3, r4, r5, r6, r7⟩ := kR1.c8
        have hR1 : w.heap.size + 1 < wr.heap.size := by omega
        obtain ⟨e0, e1, e2, e3, e4, e5, e6, e7⟩ := kg.c8
        have zr := fun i => kR1.frozen i
        have zr0 := zr 0; have zr1 := zr 1; have zr2 := zr 2; have zr3 := zr 3; have zr4 := zr 4; have zr5 := zr 5; have zr6 := zr 6; have zr7 := zr 7
        clear zr
        go_wp2_with fail
        have hl := own_len oP
        rw [List.length_map] at hl
        rw [List.take_of_length_le (by rw [HPL.out]; omega)] at oP
        have hgR : g ≠ w.heap.size + 1 := by omega
        refine bodyPost_ret (v := .agg #[.int .i64 v.kind, .slice A1 n1 c1, .slice Ao k co, .slice A2 n2 c2, .slice A3 n3 c3, .slice A4 n4 c4, .int .i64 v.code, .int .i64 v.env]) (by simp [results, Try.results85, go_sem, r0, r1, r2, r3, r4, r5, r6, r7, hR1]) rfl ⟨_, F1 ++ (FP ++ (F2 ++ (F3 ++ (F4 ++ [])))), rfl, ?_, ?_, ?_⟩
        · have q1 := fr.right.tail
          have qP := fr.left
          have q2 := q1.right
          have q3 := q2.right
          have f1 := q1.left
          have f2 := q2.left
          have f3 := q3.left
          have f4 := q3.right
          refine Vector_own wk ?_ ?_ ?_ ?_ ?_ wc we
          all_goals (repeat' (first | with_reducible assumption | with_reducible refine own_dw ?_ | with_reducible refine own_al ?_ | with_reducible refine own_pk ?_ ?_ | with_reducible exact notin_nil | with_reducible refine notin_app ?_ ?_ | (with_reducible refine Fresh.notin (by with_reducible assumption) ?_; ((try simp only [wsize_drew, wsize_alloc, wsize_set]); omega)) | (with_reducible refine Lo.notin (by with_reducible assumption) ?_; ((try simp only [wsize_drew, wsize_alloc, wsize_set]); omega)) | with_reducible refine own_below ?_ (by with_reducible assumption)))
        · have fr2 : Fresh w.heap.size (FP ++ (F1 ++ (F2 ++ (F3 ++ F4)))) := (fr.mono (by omega)).sub ((List.Sublist.refl _).append (List.sublist_cons_self _ _))
          exact fr2.perm (by simp [List.perm_iff_count]; omega)
        · (repeat' (first | with_reducible assumption | with_reducible exact Below.refl _ _ | with_reducible refine bel_dw ?_ | with_reducible refine bel_al ?_ ?_ | with_reducible refine bel_set ?_ ?_ | with_reducible refine bel_call ?_ (by with_reducible assumption) ?_ | ((try simp only [wsize_drew, wsize_alloc, wsize_set]); omega)))
theorem copyVector_any (v : Vec) : cpP v := Vector_ind copyVector_of v
end Go.Proofs.Ytekcpadlmfaihaa
namespace Go.Proofs.Ytekcpadlmfaihaa
open Go.RowKit
section
variable {P : Program} {ops : Array Oper} {Q : Exit → Act → World → Prop} {md : Region.Mode} {S : World → Prop} {i : Nat} {oi : Oper} {v : Value} {d : Tmp} {fuel : Nat} {listed : Array Bool} {T : Array Value} {D : List Deferred} {w : World}
theorem tk_yes (hi : ops[i]? = some oi) (hd : oi.dst = some d) (hs : Region.noSelect ops = true) (hf : Region.free md ops listed i = true) (hr : (Region.ready md ops listed).contains i = true)
    (hQ : ∀ c a a' w, Q (.panic c) a w → Q (.panic c) a' w) (hw : Region.wanted oi (yielded ops T) = true) (hy : ∀ w, S w → (execOp (Act.mk T D).eval oi).run P w = .ok (.value v) w) (hS : S w)
    (h : wpAnyH P md ops Q S fuel (listed.setIfInBounds i true) ⟨T.setIfInBounds d v, D⟩ w) : wpAnyH P md ops Q S (fuel + 1) listed ⟨T, D⟩ w := by
  refine wpAnyH_take (v := v) hi hs hf hr (fun c a w h => hQ c _ _ w h) (Or.inl ⟨hw, hy⟩) hS ?_
  rw [hd]; exact h
theorem tk_no (hi : ops[i]? = some oi) (hd : oi.dst = some d) (hs : Region.noSelect ops = true) (hf : Region.free md ops listed i = true) (hr : (Region.ready md ops listed).contains i = true)
    (hQ : ∀ c a a' w, Q (.panic c) a w → Q (.panic c) a' w) (hw : Region.wanted oi (yielded ops T) = false) (hS : S w)
    (h : wpAnyH P md ops Q S fuel (listed.setIfInBounds i true) ⟨T.setIfInBounds d undef, D⟩ w) : wpAnyH P md ops Q S (fuel + 1) listed ⟨T, D⟩ w := by
  refine wpAnyH_take (v := undef) hi hs hf hr (fun c a w h => hQ c _ _ w h) (Or.inr ⟨hw, rfl⟩) hS ?_
  rw [hd]; exact h
end
end Go.Proofs.Ytekcpadlmfaihaa
