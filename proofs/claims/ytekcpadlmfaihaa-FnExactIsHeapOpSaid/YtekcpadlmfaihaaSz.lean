/- How much data there is: what the law's own functions sz.. count. -/
import Derived.Test.YtekcpadlmfaihaaVec
import Derived.Test.YtekcpadlmfaihaaFd
namespace Go.Proofs.Ytekcpadlmfaihaa
open Go.RowKit
mutual
def szD : D → Nat
  | .i _ _ => 0
  | .b _ => 0
  | .s x => x.length
  | .st fs => szDs fs
  | .sl xs => xs.length + szDs xs
def szDs : List D → Nat
  | [] => 0
  | x :: t => szD x + szDs t
end
/-- What is left of n. -/
def lft (s : Nat) (n : Int) : Int := if (s : Int) ≤ n then n - s else -1
theorem lft_bd (s : Nat) (n : Int) (h : 0 ≤ n) : -1 ≤ lft s n ∧ lft s n ≤ n ∧ (0 ≤ lft s n → (s : Int) ≤ n) := by unfold lft; split <;> omega
theorem lft_neg {s : Nat} {n : Int} (h : lft s n < 0) (h0 : 0 ≤ n) : lft s n = -1 := by unfold lft at h ⊢; split <;> omega
theorem szDs_app (l l' : List D) : szDs (l ++ l') = szDs l + szDs l' := by
  induction l with
  | nil => simp [szDs]
  | cons a t ih => simp only [List.cons_append, szDs, ih]; omega
theorem szDs_take {α : Type} {f : α → D} {l : List α} {k : Nat} {x : α} (h : l[k]? = some x) : szDs ((l.take (k + 1)).map f) = szDs ((l.take k).map f) + szD (f x) := by
  rw [take_snoc' h, List.map_append, szDs_app]; simp [szDs]
theorem szDs_le {α : Type} {f : α → D} (l : List α) (k : Nat) : szDs ((l.take k).map f) ≤ szDs (l.map f) := by
  have h : l.map f = (l.take k).map f ++ (l.drop k).map f := by rw [← List.map_append, List.take_append_drop]
  rw [h, szDs_app]; omega
theorem szDs_mem {x : D} : ∀ {l : List D}, x ∈ l → szD x ≤ szDs l
  | [], h => by simp at h
  | a :: t, h => by
    rw [szDs]
    rcases List.mem_cons.1 h with rfl | h
    · omega
    · have := szDs_mem h; omega
theorem lft_lft {a b : Nat} {n : Int} (h : (a : Int) ≤ n) : lft b (lft a n) = lft (a + b) n := by
  unfold lft
  rw [if_pos h]
  by_cases hb : (b : Int) ≤ n - a
  · rw [if_pos hb, if_pos (by omega)]; omega
  · rw [if_neg hb, if_neg (by omega)]
theorem lft_no {a b : Nat} {n : Int} (h : n < (a : Int)) : lft (a + b) n = -1 := by unfold lft; rw [if_neg (by omega)]
theorem lft_of {a : Nat} {n : Int} (h : (a : Int) ≤ n) : lft a n = n - a := by unfold lft; rw [if_pos h]
theorem szT_eq (l : List Str) (n : Int) (h : 0 ≤ n) : szT l n = lft (szDs (l.map .s)) n := by
  induction l generalizing n with
  | nil => simp [szT, szDs, lft, h]
  | cons a t ih =>
    rw [szT, List.map_cons, szDs, szD]
    split
    · rw [lft_no (by omega)]
    · rw [ih _ (by omega), ← lft_lft (a := a.length) (by omega), lft_of (a := a.length) (by omega)]
theorem szTs_eq (l : List Str) (n : Int) (h : 0 ≤ n) : szTs l n = lft (szD (.sl (l.map .s))) n := by
  rw [szTs, szD, List.length_map]
  split
  · rw [lft_no (by omega)]
  · rw [szT_eq _ _ (by omega), ← lft_lft (a := l.length) (by omega), lft_of (a := l.length) (by omega)]
theorem szDs_ints {α : Type} {f : α → D} (hf : ∀ x, szD (f x) = 0) (l : List α) : szDs (l.map f) = 0 := by
  induction l with
  | nil => rfl
  | cons a t ih => rw [List.map_cons, szDs, ih, hf]
theorem szN_eq (l : List Int) (n : Int) (h : 0 ≤ n) : szN l.length n = lft (szD (.sl (l.map (.i .i64)))) n := by
  rw [szN, szD, List.length_map, szDs_ints (fun _ => by rw [szD])]
  unfold lft
  split <;> split <;> omega
theorem szStringS_r (l : List Str) (A : Option Addr) (len cap : Nat) (n : Int) (w : World) (h : rep w w.heap.size (.sl (l.map .s)) [.slice A len cap]) (h0 : 0 ≤ n) (h1 : n ≤ 1048576) :
    Calls Try.prog 36 #[.slice A len cap, .int .i64 n] w fun e w' => e = .returned (.int .i64 (lft (szD (.sl (l.map .s))) n)) ∧ Below w.heap.size w w' := by
  obtain ⟨A', n', c', he, h2, h3, h4, h5⟩ := (repS _ _ _ _).1 h
  injection he with he; injection he with e1 e2 e3; subst e1 e2 e3
  rw [← szTs_eq l n h0]
  exact (szStringS_any A len cap l n w h4 h5 (by omega) h0 h1).mono fun _ _ ⟨a, b⟩ => ⟨a, b ▸ Below.refl _ _⟩
theorem szIntS_r (l : List Int) (A : Option Addr) (len cap : Nat) (n : Int) (w : World) (h : rep w w.heap.size (.sl (l.map (.i .i64))) [.slice A len cap]) (h0 : 0 ≤ n) (h1 : n ≤ 1048576) :
    Calls Try.prog 37 #[.slice A len cap, .int .i64 n] w fun e w' => e = .returned (.int .i64 (lft (szD (.sl (l.map (.i .i64)))) n)) ∧ Below w.heap.size w w' := by
  have h2 := rep_sl_len h
  rw [List.length_map] at h2
  rw [← szN_eq l n h0, h2.1]
  exact (szIntS_any A len cap n w (by omega) h0 h1).mono fun _ _ ⟨a, b⟩ => ⟨a, b ▸ Below.refl _ _⟩
end Go.Proofs.Ytekcpadlmfaihaa
