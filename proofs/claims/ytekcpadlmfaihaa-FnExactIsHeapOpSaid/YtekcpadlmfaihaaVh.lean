/- The shape and the depth of valid vectors, plainly. -/
import Derived.Test.YtekcpadlmfaihaaVd
import Derived.Deep.DeepCutAuto
namespace Go.Proofs.Ytekcpadlmfaihaa
open Go.RowKit
theorem zdec (n : Nat) : decide ((0 : Int) < (n : Int)) = decide (0 < n) := by rw [decide_eq_decide]; omega
def shP (kind code env : Int) (ni np nn nc nl : Nat) : Prop :=
  (0 < nl → kind = 2) ∧ (0 < np → kind = 4) ∧ (kind ≠ 5 → code = 0 ∧ env = 0) ∧ (kind = 5 → ni = 0 ∧ nn = 0 ∧ -999 ≤ code ∧ code ≤ 99999 ∧ 0 ≤ env ∧ env ≤ 99999) ∧ (kind = 0 → ni = 0 ∧ nc = 0)
instance (kind code env : Int) (ni np nn nc nl : Nat) : Decidable (shP kind code env ni np nn nc nl) := by unfold shP; infer_instance
def itL (v : Vec) (x : Item) : Bool := itemOK v.kind x && (decide (v.levels.length = 0) || isMiss x || decide (x.den = 1 ∧ 1 ≤ x.num ∧ x.num ≤ v.levels.length))
def shI (v : Vec) (x : Item) : Bool := atomK v.kind && itL v x
def shA (v : Vec) : Bool := decide (0 ≤ v.kind ∧ v.kind ≤ 5 ∧ lenV v ≤ 40) && labV v.cls 3 && labV v.levels 20
def shN (v : Vec) : Bool := (decide (v.names.length = 0) || (decide (v.names.length = lenV v) && !allE v.names)) && v.names.all (fun s => decide (s.length ≤ 60))
def shC (v : Vec) : Bool := decide (shP v.kind v.code v.env v.items.length v.parts.length v.names.length v.cls.length v.levels.length)
def shapeOK (v : Vec) : Bool := shA v && shN v && shC v && v.items.all (shI v)
theorem shNo {v : Vec} (h : shA v = false ∨ shN v = false ∨ shC v = false ∨ v.items.all (shI v) = false) : shapeOK v = false := by
  unfold shapeOK
  rcases h with h | h | h | h <;> rw [h] <;> simp
mutual
def partsOK : Vec → Bool
  | ⟨k, i, p, n, c, l, cd, e⟩ => shapeOK ⟨k, i, p, n, c, l, cd, e⟩ && partsOKL p
def partsOKL : List Vec → Bool
  | [] => true
  | v :: t => partsOK v && partsOKL t
end
theorem partsOK_eq (v : Vec) : partsOK v = (shapeOK v && v.parts.all partsOK) := by
  have h : ∀ l, partsOKL l = l.all partsOK := by
    intro l
    induction l with
    | nil => rw [partsOKL]; rfl
    | cons a t ih => rw [partsOKL, ih]; rfl
  cases v; rw [partsOK, h]
def okD : Nat → Vec → Bool
  | 0, v => shapeOK v && v.parts.isEmpty
  | d + 1, v => shapeOK v && v.parts.all (okD d)
theorem foldl_max_iff {α : Type} (f : α → Nat) (l : List α) (o M : Nat) : l.foldl (fun o p => max o (f p)) o ≤ M ↔ o ≤ M ∧ ∀ x ∈ l, f x ≤ M := by
  induction l generalizing o with
  | nil => simp
  | cons a t ih =>
    rw [List.foldl_cons, ih]
    simp only [List.mem_cons, forall_eq_or_imp]
    constructor
    · rintro ⟨h1, h2⟩; exact ⟨by omega, by omega, h2⟩
    · rintro ⟨h1, h2, h3⟩; exact ⟨by omega, h3⟩
theorem okD_eq (d : Nat) (v : Vec) : okD d v = (decide (nestV (d + 1) v ≤ d) && partsOK v) := by
  induction d generalizing v with
  | zero =>
    rw [okD, partsOK_eq, nestV]
    cases hp : v.parts with
    | nil => simp
    | cons a t =>
      have : ¬ (a :: t).foldl (fun o p => max o (1 + nestV 0 p)) 0 ≤ 0 := by
        rw [foldl_max_iff (fun p => 1 + nestV 0 p)]
        intro h
        have := h.2 a List.mem_cons_self
        omega
      rw [decide_eq_false this]; simp
  | succ d ih =>
    rw [okD, partsOK_eq, nestV]
    have h1 : v.parts.all (okD d) = (decide (v.parts.foldl (fun o p => max o (1 + nestV (d + 1) p)) 0 ≤ d + 1) && v.parts.all partsOK) := by
      rw [Bool.eq_iff_iff, List.all_eq_true, Bool.and_eq_true, decide_eq_true_iff, foldl_max_iff (fun p => 1 + nestV (d + 1) p), List.all_eq_true]
      constructor
      · intro h
        refine ⟨⟨by omega, fun x hx => ?_⟩, fun x hx => ?_⟩
        · have := h x hx; rw [ih, Bool.and_eq_true, decide_eq_true_iff] at this; omega
        · have := h x hx; rw [ih, Bool.and_eq_true] at this; exact this.2
      · rintro ⟨⟨_, h2⟩, h3⟩ x hx
        rw [ih, Bool.and_eq_true, decide_eq_true_iff]
        exact ⟨by have := h2 x hx; omega, h3 x hx⟩
    rw [h1]
    cases shapeOK v <;> cases (decide (v.parts.foldl (fun o p => max o (1 + nestV (d + 1) p)) 0 ≤ d + 1)) <;> simp
def isVec (v : Vec) : Bool := okD 3 v && decide (cellsV v ≤ 200)
theorem shN_eq (v : Vec) : shN v = ((decide (v.names.length = 0) || decide (v.names.length = lenV v)) && named v.names) := by
  unfold shN named
  cases hn : v.names with
  | nil => simp
  | cons a t =>
    have h0 : decide ((a :: t).length = 0) = false := by simp
    rw [h0]
    cases decide ((a :: t).length = lenV v) <;> cases allE (a :: t) <;> cases (a :: t).all (fun s => decide (s.length ≤ 60)) <;> rfl
def okL (d : Nat) (v : Vec) : Bool := match d with
  | 0 => v.parts.isEmpty
  | d + 1 => v.parts.all (okD d)
theorem okD_split (d : Nat) (v : Vec) : okD d v = (shA v && shN v && shC v && v.items.all (shI v) && okL d v) := by
  cases d <;> rw [okD, shapeOK] <;> rfl
theorem den_ne {kind : Int} {x : Item} (h : itemOK kind x = true) : isMiss x = decide (x.den = 0) := by
  cases hm : isMiss x with
  | true =>
    obtain rfl : x = ⟨0, 0, []⟩ := by simpa [isMiss] using hm
    rfl
  | false =>
    rw [itemOK, hm, Bool.false_or] at h
    rw [eq_comm, decide_eq_false_iff_not]
    split at h
    · simp at h; omega
    · split at h
      · simp [isNum] at h; omega
      · split at h
        · simp at h; omega
        · cases h
theorem okNo {d : Nat} {v : Vec} (h : shA v = false ∨ shN v = false ∨ shC v = false ∨ v.items.all (shI v) = false ∨ okL d v = false) : okD d v = false := by
  rw [okD_split]
  rcases h with h | h | h | h | h <;> rw [h] <;> simp
end Go.Proofs.Ytekcpadlmfaihaa
