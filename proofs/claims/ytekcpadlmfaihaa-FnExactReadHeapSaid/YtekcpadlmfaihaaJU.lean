/- Opening arguments: a slice of structs that came in reads as a list. No conditions. Opening arguments: whatever can be read as data of a type is held as a tree. Whatever reads as data of the law's type Item is such a datum. Whatever reads as data of the law's type Vector is such a datum. Whatever reads as data of the law's type Cell is such a datum. Whatever reads as data of the law's type Heap is such a datum. -/
import Derived.Test.YtekcpadlmfaihaaJA
import Derived.ProofKit
import Derived.OpenShut
import Derived.ShutString
import Derived.ChangeOld
import Derived.Deep.Slices
import Derived.Deep.Fields
import Derived.ChangeSame
import Derived.Test.YtekcpadlmfaihaaJC
import Derived.Test.YtekcpadlmfaihaaJD
import Derived.Test.YtekcpadlmfaihaaJE
set_option linter.unusedSimpArgs false
set_option linter.unusedVariables false
namespace Go.Proofs.Ytekcpadlmfaihaa
open Go.ChangeShapes Go.WideShapes Go.Deep Go.RowKit
theorem ownKn : ownKnob Try.prog.godebug = none := by kernel_rfl
theorem laidOut : laidOutB Try.prog = true := by kernel_rfl
section
variable {H : Type} {enc : TypeId × Value → H} {P : Program} {w : World} {base : Nat} {spare : Nat → Bool} {held : Bool}
theorem open_slice_fields {t e : TypeId} {fs : Array Field} {fuel : Nat} {cs : List Value} {x : DataW H × List MemPlace} (ht : P.underlying t = some (.slice e)) (he : P.underlying e = some (.struct fs))
    (hone : oneCellFields P fs = true) (hC : P.cellsOf e = fs.size) (h : DataW.trod enc P w base spare held fuel t cs = some x) :
    (cs = [.slice none 0 0] ∧ x = (.nil, [])) ∨
    ∃ (a : Addr) (len cap m : Nat) (D : Nat → DataW H) (Pl : Nat → List MemPlace), cs = [.slice (some a) len cap] ∧ base ≤ a.block ∧ len ≤ cap ∧ cap ≤ maxLen ∧ m = (if spare a.block then cap else len) ∧
      x = (.slice ((List.range len).map D) ((List.range (m - len)).map fun j => D (len + j)), MemPlace.row a (m * fs.size) ++ (List.range m).flatMap Pl) ∧
      ∀ i, i < m → ∃ (ys : List (DataW H × List MemPlace)) (n : Nat), D i = .agg (ys.map (·.1)) ∧ Pl i = ys.flatMap (·.2) ∧ ys.length = fs.size ∧
        ∀ (j : Nat) (f : Field), fs[j]? = some f → ∃ (v : Value) (y : DataW H × List MemPlace), w.cell? (a.add (i * fs.size + j)) = some v ∧ ys[j]? = some y ∧ DataW.trod enc P w base spare held n f.type [v] = some y := by
  rcases open_slice ht h with h0 | ⟨a, len, cap, m, n, D, Pl, hcs, hb, hl, hm, hmm, hx, hi⟩
  · exact .inl h0
  · refine .inr ⟨a, len, cap, m, D, Pl, hcs, hb, hl, hm, hmm, by rw [hC] at hx; exact hx, fun i him => ?_⟩
    obtain ⟨cs', hc, ht'⟩ := hi i him
    rw [hC] at hc
    obtain ⟨ys, n', hn', hy, hlen, hyl, hf⟩ := DataW.trod_struct he ht'
    obtain ⟨_, hcl, hat⟩ := World.cells?_some hc
    simp only [Prod.mk.injEq] at hy
    refine ⟨ys, n', hy.1, hy.2, hyl, fun j f hj => ?_⟩
    obtain ⟨ho, hk⟩ := hone_of hone j f hj
    have hjl : j < fs.size := (Array.getElem?_eq_some_iff.1 hj).1
    have hcell := hat j hjl
    have hv : cs'[j]? = some (cs'[j]'(by omega)) := List.getElem?_eq_getElem (by omega)
    have h1 := hf j f hj
    rw [ho, hk] at h1
    have hone' : (cs'.drop j).take 1 = [cs'[j]'(by omega)] := by
      rw [List.drop_eq_getElem_cons (by omega)]
      rfl
    rw [hone'] at h1
    have hys : ys[j]? = some (ys[j]'(by omega)) := List.getElem?_eq_getElem (by omega)
    refine ⟨_, _, ?_, hys, h1.trans hys⟩
    rw [← Go.Deep.add_add, hcell, hv]

/-- The address of a slice whose cells are there is a plain one. -/
theorem addr_plain {w : World} {a : Addr} {u : Value} (h : w.cell? (a.add 0) = some u) : ∃ b off, a = ⟨b, off, none⟩ ∧ b < w.heap.size := by
  have h0 : w.cell? a = some u := by simpa [Addr.add] using h
  obtain ⟨b, off, spot⟩ := a
  have := World.cell?_spot h0
  simp at this; subst this
  exact ⟨b, off, rfl, World.block_lt_of_cell? w _ h0⟩
theorem add_plain (b off n : Nat) : (⟨b, off, none⟩ : Addr).add n = ⟨b, off + n, none⟩ := by
  unfold Addr.add; by_cases h : n = 0 <;> simp [h]

/-- A slice of structs of two strings. -/
theorem open_pairs {t e s0 s1 : TypeId} {f0 f1 : Field} {A : Option Addr} {len cap : Nat} {d : DataW H} {p : List MemPlace} (ht : P.underlying t = some (.slice e)) (he : P.underlying e = some (.struct #[f0, f1]))
    (hone : oneCellFields P #[f0, f1] = true) (hC : P.cellsOf e = 2) (e0 : f0.type = s0) (e1 : f1.type = s1) (h0 : P.underlying s0 = some .string) (h1 : P.underlying s1 = some .string)
    (h : DataW.Trod enc P w base spare held t (.slice A len cap) d p) :
    ∃ l : List Pair, Reads enc2 2 w w.heap.size A len l ∧ (∀ e ∈ l, e.1.length ≤ maxLen ∧ e.2.length ≤ maxLen) ∧ len ≤ maxLen := by
  obtain ⟨fuel, hf⟩ := h
  rcases open_slice_fields ht he hone hC hf with ⟨hcs, _⟩ | ⟨a, len', cap', m, D, Pl, hcs, _, hl, hm, hmm, _, hi⟩
  · simp [Value.cells] at hcs
    obtain ⟨rfl, rfl, rfl⟩ := hcs
    exact ⟨[], Reads.nil_, by simp, by unfold maxLen; omega⟩
  · simp [Value.cells] at hcs
    obtain ⟨rfl, rfl, rfl⟩ := hcs
    have hlm : len ≤ m := by rw [hmm]; split <;> omega
    have hel : ∀ i, i < len → ∃ x y : Str, w.cell? (a.add (i * 2)) = some (sv x) ∧ w.cell? (a.add (i * 2 + 1)) = some (sv y) ∧ x.length ≤ maxLen ∧ y.length ≤ maxLen := by
      intro i hi'
      obtain ⟨ys, n, _, _, _, hfi⟩ := hi i (by omega)
      obtain ⟨v0, y0, hc0, _, ht0⟩ := hfi 0 f0 rfl
      obtain ⟨v1, y1, hc1, _, ht1⟩ := hfi 1 f1 rfl
      rw [e0] at ht0
      rw [e1] at ht1
      obtain ⟨x0, hx0, _, hs0⟩ := DataW.trod_string h0 ht0
      obtain ⟨x1, hx1, _, hs1⟩ := DataW.trod_string h1 ht1
      simp at hx0 hx1
      subst hx0 hx1
      obtain ⟨z0, rfl⟩ := str_eta x0
      obtain ⟨z1, rfl⟩ := str_eta x1
      exact ⟨z0, z1, hc0, hc1, hs0, hs1⟩
    have hch : ∃ f : Nat → Pair, ∀ i, i < len → w.cell? (a.add (i * 2)) = some (sv (f i).1) ∧ w.cell? (a.add (i * 2 + 1)) = some (sv (f i).2) ∧ (f i).1.length ≤ maxLen ∧ (f i).2.length ≤ maxLen := by
      refine ⟨fun i => if h : i < len then (Classical.choose (hel i h), Classical.choose (Classical.choose_spec (hel i h))) else ([], []), fun i hi' => ?_⟩
      simp only [hi', dif_pos]
      exact Classical.choose_spec (Classical.choose_spec (hel i hi'))
    obtain ⟨f, hfp⟩ := hch
    refine ⟨(List.range len).map f, ⟨by simp, fun hn => ?_⟩, ?_, by omega⟩
    · have h00 := (hfp 0 hn).1
      rw [Nat.zero_mul] at h00
      obtain ⟨b, off, rfl, hb⟩ := addr_plain h00
      refine ⟨b, off, rfl, hb, fun k x j u hx hu => ?_⟩
      have hk : k < len := by have := (List.getElem?_eq_some_iff.1 hx).1; simpa using this
      have hxk : x = f k := by simp [List.getElem?_map, List.getElem?_range hk] at hx; exact hx.symm
      subst hxk
      have := hfp k hk
      match j, hu with
      | 0, hu => simp [enc2] at hu; subst hu; rw [add_plain] at this; exact this.1
      | 1, hu => simp [enc2] at hu; subst hu; have h2 := this.2.1; rw [add_plain] at h2; exact h2
      | j + 2, hu => simp [enc2] at hu
    · intro e he'
      simp at he'
      obtain ⟨i, hi', rfl⟩ := he'
      exact (hfp i hi').2.2
end
end Go.Proofs.Ytekcpadlmfaihaa
namespace Go.Proofs.Ytekcpadlmfaihaa
open Go.ChangeShapes Go.WideShapes Go.Deep Go.RowKit
mutual
/-- The datum is of the type t. -/
def shp (P : Program) : D → TypeId → Prop
  | .i k _, t => P.underlying t = some (.int k)
  | .b _, t => P.underlying t = some .bool
  | .s _, t => P.underlying t = some .string
  | .st fs, t => ∃ fds : Array Field, P.underlying t = some (.struct fds) ∧ shpL P fs (fds.toList.map Field.type)
  | .sl xs, t => ∃ e, P.underlying t = some (.slice e) ∧ shpA P xs e
def shpL (P : Program) : List D → List TypeId → Prop
  | [], ts => ts = []
  | x :: t, ts => ∃ t1 t2, ts = t1 :: t2 ∧ shp P x t1 ∧ shpL P t t2
def shpA (P : Program) : List D → TypeId → Prop
  | [], _ => True
  | x :: t, e => shp P x e ∧ shpA P t e
end
def layB (P : Program) (S : List TypeId) : List Field → Nat → Option Nat
  | [], off => some off
  | f :: t, off => if f.offset == off && S.contains f.type then layB P S t (off + P.cellsOf f.type) else none
def goodB (P : Program) (S : List TypeId) (t : TypeId) : Bool :=
  match P.underlying t with
  | some (.int _) => true
  | some .bool => true
  | some .string => true
  | some (.slice e) => S.contains e && decide (1 ≤ P.cellsOf e)
  | some (.struct fs) => layB P S fs.toList 0 == some (P.cellsOf t)
  | _ => false
section
variable {H : Type} {enc : TypeId × Value → H} {P : Program} {w : World} {base : Nat} {spare : Nat → Bool} {held : Bool}
theorem choose_list {α : Type} {n : Nat} {p : Nat → α → Prop} (h : ∀ i, i < n → ∃ x, p i x) : ∃ l : List α, l.length = n ∧ ∀ (i : Nat) x, l[i]? = some x → p i x := by
  induction n with
  | zero => exact ⟨[], rfl, by simp⟩
  | succ n ih =>
    obtain ⟨l, hl, hp⟩ := ih (fun i hi => h i (by omega))
    obtain ⟨x, hx⟩ := h n (by omega)
    refine ⟨l ++ [x], by simp [hl], fun i y hy => ?_⟩
    rcases Nat.lt_trichotomy i n with hi | hi | hi
    · rw [List.getElem?_append_left (by omega)] at hy; exact hp i y hy
    · subst hi; rw [List.getElem?_append_right (by omega), hl] at hy; simp at hy; subst hy; exact hx
    · rw [List.getElem?_append_right (by omega)] at hy
      have : i - l.length = (i - l.length - 1) + 1 := by omega
      rw [this] at hy; simp at hy
theorem shpA_mk {P : Program} {e : TypeId} : ∀ {l : List D}, (∀ x ∈ l, shp P x e) → shpA P l e
  | [], _ => by simp [shpA]
  | x :: t, h => by rw [shpA]; exact ⟨h x List.mem_cons_self, shpA_mk fun y hy => h y (List.mem_cons_of_mem _ hy)⟩
theorem shpA_of {P : Program} {e : TypeId} : ∀ {l : List D}, shpA P l e → ∀ x ∈ l, shp P x e
  | [], _, x, hx => by simp at hx
  | y :: t, h, x, hx => by
    rw [shpA] at h
    rcases List.mem_cons.1 hx with rfl | hx
    · exact h.1
    · exact shpA_of h.2 x hx
/-- The fields of a struct. -/
theorem open_fields {S : List TypeId} {Q : TypeId → List Value → Prop} (hop : ∀ t cs, S.contains t = true → Q t cs → ∃ d, rep w w.heap.size d cs ∧ shp P d t) :
    ∀ (fs : List Field) (cs : List Value) (off tot : Nat), layB P S fs off = some tot → cs.length = tot → off ≤ tot → (∀ f ∈ fs, Q f.type ((cs.drop f.offset).take (P.cellsOf f.type))) →
      ∃ (ds : List D) (css : List (List Value)), cs.drop off = css.flatten ∧ repL w w.heap.size ds css ∧ shpL P ds (fs.map Field.type)
  | [], cs, off, tot, hl, hc, _, _ => by
    simp [layB] at hl
    exact ⟨[], [], by rw [List.drop_of_length_le (by omega)]; rfl, by rw [repL], by simp [shpL]⟩
  | f :: t, cs, off, tot, hl, hc, ho, hq => by
    rw [layB] at hl
    split at hl
    · rename_i hh
      rw [Bool.and_eq_true] at hh
      have ho' : f.offset = off := by simpa using hh.1
      obtain ⟨d, hd, hs⟩ := hop f.type _ hh.2 (hq f List.mem_cons_self)
      rw [ho'] at hd
      by_cases hle : off + P.cellsOf f.type ≤ tot
      · obtain ⟨ds, css, h1, h2, h3⟩ := open_fields hop t cs _ tot hl hc hle (fun g hg => hq g (List.mem_cons_of_mem _ hg))
        refine ⟨d :: ds, _ :: css, ?_, repL_cons.2 ⟨hd, h2⟩, ?_⟩
        · rw [List.flatten_cons, ← h1, ← List.drop_drop, List.take_append_drop]
        · rw [List.map_cons, shpL]; exact ⟨_, _, rfl, hs, h3⟩
      · exfalso
        have : ∀ (l : List Field) (o T : Nat), layB P S l o = some T → o ≤ T := by
          intro l
          induction l with
          | nil => intro o T h; simp [layB] at h; omega
          | cons a l ih => intro o T h; rw [layB] at h; split at h; have := ih _ _ h; omega; cases h
        exact hle (this _ _ _ hl)
    · cases hl
theorem open_data {S : List TypeId} (hS : S.all (goodB P S) = true) : ∀ (fuel : Nat) (t : TypeId) (cs : List Value) (x : DataW H × List MemPlace), S.contains t = true →
    DataW.trod enc P w base spare held fuel t cs = some x → ∃ d, rep w w.heap.size d cs ∧ shp P d t := by
  intro fuel
  induction fuel with
  | zero => intro t cs x _ h; simp [DataW.trod] at h
  | succ fuel ih =>
    intro t cs x ht h
    have hg : goodB P S t = true := by
      rw [List.all_eq_true] at hS
      exact hS t (by simpa using ht)
    unfold goodB at hg
    split at hg
    · rename_i hu
      obtain ⟨n, h1, _, h2⟩ := DataW.trod_int hu h
      exact ⟨.i _ n, by rw [rep]; exact ⟨h1, h2⟩, by rw [shp]; exact hu⟩
    · rename_i hu
      obtain ⟨b, h1, _⟩ := DataW.trod_bool hu h
      exact ⟨.b b, by rw [rep]; exact h1, by rw [shp]; exact hu⟩
    · rename_i hu
      obtain ⟨s, h1, _, h2⟩ := DataW.trod_string hu h
      obtain ⟨z, rfl⟩ := str_eta s
      exact ⟨.s z, by rw [rep]; exact ⟨h1, h2⟩, by rw [shp]; exact hu⟩
    · rename_i e hu
      rw [Bool.and_eq_true] at hg
      have he1 : 1 ≤ P.cellsOf e := of_decide_eq_true hg.2
      rcases DataW.trod_slice hu h with ⟨h1, _⟩ | ⟨a, len, cap, elems, rest, n, hn, h1, _, hb, hl, hm, hlen, hel, _⟩
      · exact ⟨.sl [], by rw [rep]; exact ⟨none, 0, 0, 1, [], h1, by omega, by unfold maxLen; omega, Reads.nil_, by simp [repL]⟩, by rw [shp]; exact ⟨e, hu, by simp [shpA]⟩⟩
      · obtain rfl : fuel = n := by omega
        have hrow : ∀ i, i < len → ∃ r : Row (P.cellsOf e) × D, (∀ j, j < P.cellsOf e → w.cell? ((a.add (i * P.cellsOf e)).add j) = r.1.v[j]?) ∧ rep w w.heap.size r.2 r.1.v ∧ shp P r.2 e := by
          intro i hi
          have h2 := hel i hi
          have h3 : elems[i]? = some elems[i] := List.getElem?_eq_getElem (by omega)
          rw [h3, Option.bind_eq_some_iff] at h2
          obtain ⟨cs', h4, h5⟩ := h2
          obtain ⟨_, h6, h7⟩ := World.cells?_some h4
          obtain ⟨d, h8, h9⟩ := ih e cs' _ hg.1 h5
          exact ⟨(⟨cs', h6⟩, d), h7, h8, h9⟩
        obtain ⟨l, hll, hlp⟩ := choose_list hrow
        refine ⟨.sl (l.map (·.2)), ?_, ?_⟩
        · rw [rep]
          refine ⟨some a, len, cap, P.cellsOf e, l.map (·.1), h1, hl, hm, ⟨by simpa using hll, fun h0 => ?_⟩, repL_mk (by simp) fun k d cs hd hc => ?_⟩
          · have hx0 : l[0]? = some l[0] := List.getElem?_eq_getElem (by omega)
            have h00 := (hlp 0 _ hx0).1 0 (by omega)
            have hv : ∃ u, l[0].1.v[0]? = some u := ⟨_, List.getElem?_eq_getElem (by rw [Row.len]; omega)⟩
            obtain ⟨u, hu'⟩ := hv
            rw [hu', Nat.zero_mul] at h00
            have h01 : w.cell? (a.add 0) = some u := by simpa [Addr.add] using h00
            obtain ⟨b, off, rfl, hb'⟩ := addr_plain h01
            refine ⟨b, off, rfl, hb', fun k x j u hx hu => ?_⟩
            rw [List.getElem?_map] at hx
            cases hk : l[k]? with
            | none => simp [hk] at hx
            | some y =>
              simp [hk] at hx
              subst hx
              have hj : j < P.cellsOf e := by have := (List.getElem?_eq_some_iff.1 hu).1; rwa [Row.len] at this
              have := (hlp k y hk).1 j hj
              rw [add_plain, add_plain, hu] at this
              exact this
          · simp only [List.map_map, List.getElem?_map] at hd hc
            cases hk : l[k]? with
            | none => simp [hk] at hd
            | some y =>
              simp [hk] at hd hc
              subst hd hc
              exact (hlp k y hk).2.1
        · rw [shp]
          refine ⟨e, hu, shpA_mk fun x hx => ?_⟩
          obtain ⟨y, hy, rfl⟩ := List.mem_map.1 hx
          obtain ⟨k, hk, rfl⟩ := List.getElem_of_mem hy
          exact (hlp k _ (List.getElem?_eq_getElem hk)).2.2
    · rename_i fs hu
      obtain ⟨xs, n, hn, _, hl, hxl, hf⟩ := DataW.trod_struct hu h
      obtain rfl : fuel = n := by omega
      have hlay : layB P S fs.toList 0 = some (P.cellsOf t) := by simpa using hg
      obtain ⟨ds, css, h1, h2, h3⟩ := open_fields (P := P) (w := w) (S := S) (Q := fun t cs => ∃ x, DataW.trod enc P w base spare held fuel t cs = some x) (fun t cs ht ⟨x, hx⟩ => ih t cs x ht hx) fs.toList cs 0 _ hlay hl (by omega) (by
        intro f hf'
        obtain ⟨i, hi, rfl⟩ := List.getElem_of_mem hf'
        have hi' : i < fs.size := by simpa using hi
        refine ⟨xs[i]'(by omega), ?_⟩
        rw [hf i _ (by simp [hi'])]
        exact List.getElem?_eq_getElem (by omega))
      rw [List.drop_zero] at h1
      exact ⟨.st ds, by rw [rep]; exact ⟨css, h1, h2⟩, by rw [shp]; exact ⟨fs, hu, h3⟩⟩
    · cases hg
/-- Lists of flat data, by their type. -/
theorem shpA_map {α : Type} {f : α → D} {e : TypeId} (hf : ∀ d, shp P d e → ∃ x, d = f x) : ∀ {l : List D}, shpA P l e → ∃ xs : List α, l = xs.map f
  | [], _ => ⟨[], rfl⟩
  | x :: t, h => by
    rw [shpA] at h
    obtain ⟨y, rfl⟩ := hf x h.1
    obtain ⟨ys, rfl⟩ := shpA_map hf h.2
    exact ⟨y :: ys, rfl⟩
theorem shp_str {d : D} {t : TypeId} (ht : P.underlying t = some .string) (h : shp P d t) : ∃ s, d = .s s := by
  cases d with
  | s x => exact ⟨x, rfl⟩
  | i k n => rw [shp, ht] at h; cases h
  | b x => rw [shp, ht] at h; cases h
  | st fs => rw [shp] at h; obtain ⟨_, h, _⟩ := h; rw [ht] at h; cases h
  | sl xs => rw [shp] at h; obtain ⟨_, h, _⟩ := h; rw [ht] at h; cases h
theorem shp_bool {d : D} {t : TypeId} (ht : P.underlying t = some .bool) (h : shp P d t) : ∃ s, d = .b s := by
  cases d with
  | b x => exact ⟨x, rfl⟩
  | i k n => rw [shp, ht] at h; cases h
  | s x => rw [shp, ht] at h; cases h
  | st fs => rw [shp] at h; obtain ⟨_, h, _⟩ := h; rw [ht] at h; cases h
  | sl xs => rw [shp] at h; obtain ⟨_, h, _⟩ := h; rw [ht] at h; cases h
theorem shp_int {d : D} {t : TypeId} {k : IntKind} (ht : P.underlying t = some (.int k)) (h : shp P d t) : ∃ n, d = .i k n := by
  cases d with
  | i k n => rw [shp, ht] at h; injection h with h; injection h with h; subst h; exact ⟨n, rfl⟩
  | b x => rw [shp, ht] at h; cases h
  | s x => rw [shp, ht] at h; cases h
  | st fs => rw [shp] at h; obtain ⟨_, h, _⟩ := h; rw [ht] at h; cases h
  | sl xs => rw [shp] at h; obtain ⟨_, h, _⟩ := h; rw [ht] at h; cases h
theorem shp_slice {d : D} {t e : TypeId} (ht : P.underlying t = some (.slice e)) (h : shp P d t) : ∃ xs, d = .sl xs ∧ shpA P xs e := by
  cases d with
  | sl xs => rw [shp] at h; obtain ⟨e', h, h2⟩ := h; rw [ht] at h; injection h with h; injection h with h; subst h; exact ⟨xs, rfl, h2⟩
  | i k n => rw [shp, ht] at h; cases h
  | b x => rw [shp, ht] at h; cases h
  | s x => rw [shp, ht] at h; cases h
  | st fs => rw [shp] at h; obtain ⟨_, h, _⟩ := h; rw [ht] at h; cases h
theorem shp_struct {d : D} {t : TypeId} {fs : Array Field} (ht : P.underlying t = some (.struct fs)) (h : shp P d t) : ∃ xs, d = .st xs ∧ shpL P xs (fs.toList.map Field.type) := by
  cases d with
  | st xs => rw [shp] at h; obtain ⟨e', h, h2⟩ := h; rw [ht] at h; injection h with h; injection h with h; subst h; exact ⟨xs, rfl, h2⟩
  | i k n => rw [shp, ht] at h; cases h
  | b x => rw [shp, ht] at h; cases h
  | s x => rw [shp, ht] at h; cases h
  | sl fs => rw [shp] at h; obtain ⟨_, h, _⟩ := h; rw [ht] at h; cases h
theorem shpL_cons {xs : List D} {t : TypeId} {ts : List TypeId} (h : shpL P xs (t :: ts)) : ∃ x ys, xs = x :: ys ∧ shp P x t ∧ shpL P ys ts := by
  cases xs with
  | nil => rw [shpL] at h; cases h
  | cons x ys => rw [shpL] at h; obtain ⟨t1, t2, he, h1, h2⟩ := h; injection he with e1 e2; subst e1 e2; exact ⟨x, ys, rfl, h1, h2⟩
theorem shpL_nil {xs : List D} (h : shpL P xs []) : xs = [] := by
  cases xs with
  | nil => rfl
  | cons x ys => rw [shpL] at h; obtain ⟨t1, t2, he, _⟩ := h; cases he
end
end Go.Proofs.Ytekcpadlmfaihaa
namespace Go.Proofs.Ytekcpadlmfaihaa
open Go.RowKit
theorem Item_shp {d : D} (h : shp Try.prog d 107) : ∃ x : Item, d = x.toD := by
  obtain ⟨xs, rfl, g⟩ := shp_struct Try.underlying107 h
  clear h
  obtain ⟨x0, ys0, rfl, h0, g0⟩ := shpL_cons g
  obtain ⟨x1, ys1, rfl, h1, g1⟩ := shpL_cons g0
  obtain ⟨x2, ys2, rfl, h2, g2⟩ := shpL_cons g1
  obtain rfl := shpL_nil g2
  obtain ⟨v0, rfl⟩ := shp_int Try.underlying3 h0
  obtain ⟨v1, rfl⟩ := shp_int Try.underlying3 h1
  obtain ⟨v2, rfl⟩ := shp_str Try.underlying9 h2
  exact ⟨⟨v0, v1, v2⟩, by rw [Item_toD]⟩
end Go.Proofs.Ytekcpadlmfaihaa
namespace Go.Proofs.Ytekcpadlmfaihaa
open Go.RowKit
theorem shpA_map_mem {α : Type} {f : α → D} {e : TypeId} : ∀ {l : List D}, (∀ d ∈ l, shp Try.prog d e → ∃ x, d = f x) → shpA Try.prog l e → ∃ xs : List α, l = xs.map f
  | [], _, _ => ⟨[], rfl⟩
  | x :: t, hf, h => by
    rw [shpA] at h
    obtain ⟨y, rfl⟩ := hf x List.mem_cons_self h.1
    obtain ⟨ys, rfl⟩ := shpA_map_mem (fun d hd => hf d (List.mem_cons_of_mem _ hd)) h.2
    exact ⟨y :: ys, rfl⟩
theorem Vector_shpN (n : Nat) : ∀ d : D, SizeOf.sizeOf d ≤ n → shp Try.prog d 26 → ∃ x : Vec, d = x.toD := by
  induction n with
  | zero => intro d hn; cases d <;> simp at hn
  | succ n ih =>
    intro d hn h
    obtain ⟨xs, rfl, g⟩ := shp_struct Try.underlying26 h
    clear h
    obtain ⟨x0, ys0, rfl, h0, g0⟩ := shpL_cons g
    obtain ⟨x1, ys1, rfl, h1, g1⟩ := shpL_cons g0
    obtain ⟨x2, ys2, rfl, h2, g2⟩ := shpL_cons g1
    obtain ⟨x3, ys3, rfl, h3, g3⟩ := shpL_cons g2
    obtain ⟨x4, ys4, rfl, h4, g4⟩ := shpL_cons g3
    obtain ⟨x5, ys5, rfl, h5, g5⟩ := shpL_cons g4
    obtain ⟨x6, ys6, rfl, h6, g6⟩ := shpL_cons g5
    obtain ⟨x7, ys7, rfl, h7, g7⟩ := shpL_cons g6
    obtain rfl := shpL_nil g7
    obtain ⟨v0, rfl⟩ := shp_int Try.underlying3 h0
    obtain ⟨l1, rfl, e1⟩ := shp_slice Try.underlying22 h1
    obtain ⟨v1, rfl⟩ := shpA_map (fun d => Item_shp) e1
    obtain ⟨l2, rfl, e2⟩ := shp_slice Try.underlying23 h2
    obtain ⟨v2, rfl⟩ := shpA_map_mem (f := Vec.toD) (fun d hd hs => ih d (by have := List.sizeOf_lt_of_mem hd; simp at hn; omega) hs) e2
    obtain ⟨l3, rfl, e3⟩ := shp_slice Try.underlying24 h3
    obtain ⟨v3, rfl⟩ := shpA_map (fun d => shp_str Try.underlying9) e3
    obtain ⟨l4, rfl, e4⟩ := shp_slice Try.underlying24 h4
    obtain ⟨v4, rfl⟩ := shpA_map (fun d => shp_str Try.underlying9) e4
    obtain ⟨l5, rfl, e5⟩ := shp_slice Try.underlying24 h5
    obtain ⟨v5, rfl⟩ := shpA_map (fun d => shp_str Try.underlying9) e5
    obtain ⟨v6, rfl⟩ := shp_int Try.underlying3 h6
    obtain ⟨v7, rfl⟩ := shp_int Try.underlying3 h7
    exact ⟨⟨v0, v1, v2, v3, v4, v5, v6, v7⟩, by rw [Vector_toD]⟩
theorem Vector_shp {d : D} (h : shp Try.prog d 26) : ∃ x : Vec, d = x.toD := Vector_shpN _ d (Nat.le_refl _) h
end Go.Proofs.Ytekcpadlmfaihaa
namespace Go.Proofs.Ytekcpadlmfaihaa
open Go.RowKit
theorem Cell_shp {d : D} (h : shp Try.prog d 98) : ∃ x : Cel, d = x.toD := by
  obtain ⟨xs, rfl, g⟩ := shp_struct Try.underlying98 h
  clear h
  obtain ⟨x0, ys0, rfl, h0, g0⟩ := shpL_cons g
  obtain ⟨x1, ys1, rfl, h1, g1⟩ := shpL_cons g0
  obtain ⟨x2, ys2, rfl, h2, g2⟩ := shpL_cons g1
  obtain rfl := shpL_nil g2
  obtain ⟨v0, rfl⟩ := shp_int Try.underlying3 h0
  obtain ⟨v1, rfl⟩ := Vector_shp h1
  obtain ⟨l2, rfl, e2⟩ := shp_slice Try.underlying41 h2
  obtain ⟨v2, rfl⟩ := shpA_map (fun d => shp_int Try.underlying3) e2
  exact ⟨⟨v0, v1, v2⟩, by rw [Cell_toD]⟩
end Go.Proofs.Ytekcpadlmfaihaa
namespace Go.Proofs.Ytekcpadlmfaihaa
open Go.RowKit
theorem Heap_shp {d : D} (h : shp Try.prog d 43) : ∃ x : Hp, d = x.toD := by
  obtain ⟨xs, rfl, g⟩ := shp_struct Try.underlying43 h
  clear h
  obtain ⟨x0, ys0, rfl, h0, g0⟩ := shpL_cons g
  obtain ⟨x1, ys1, rfl, h1, g1⟩ := shpL_cons g0
  obtain ⟨x2, ys2, rfl, h2, g2⟩ := shpL_cons g1
  obtain ⟨x3, ys3, rfl, h3, g3⟩ := shpL_cons g2
  obtain rfl := shpL_nil g3
  obtain ⟨l0, rfl, e0⟩ := shp_slice Try.underlying40 h0
  obtain ⟨v0, rfl⟩ := shpA_map (fun d => Cell_shp) e0
  obtain ⟨l1, rfl, e1⟩ := shp_slice Try.underlying24 h1
  obtain ⟨v1, rfl⟩ := shpA_map (fun d => shp_str Try.underlying9) e1
  obtain ⟨l2, rfl, e2⟩ := shp_slice Try.underlying41 h2
  obtain ⟨v2, rfl⟩ := shpA_map (fun d => shp_int Try.underlying3) e2
  obtain ⟨v3, rfl⟩ := shp_int Try.underlying3 h3
  exact ⟨⟨v0, v1, v2, v3⟩, by rw [Heap_toD]⟩
end Go.Proofs.Ytekcpadlmfaihaa
