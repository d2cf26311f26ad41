/- Plain words on lists of pairs: their size against a bound; marks. No program here but the shared words. -/
import Derived.Test.YtecebamhenlnoaaMk
namespace Go.Proofs.Ytecebamhenlnoaa
open Go.RowKit
def szP (e : Pair) (n : Int) : Int := if n < e.1.length + e.2.length then -1 else n - e.1.length - e.2.length
def szL : List Pair → Int → Int
  | [], n => n
  | e :: t, n => if szP e n < 0 then -1 else szL t (szP e n)
theorem szP_le (e : Pair) (n : Int) : szP e n ≤ n ∨ szP e n = -1 := by unfold szP; split <;> omega
theorem szL_drop (l : List Pair) (k : Nat) (e : Pair) (r : Int) (h : l[k]? = some e) : szL (l.drop k) r = if szP e r < 0 then -1 else szL (l.drop (k + 1)) (szP e r) := by
  obtain ⟨hk, he⟩ := List.getElem?_eq_some_iff.1 h
  rw [List.drop_eq_getElem_cons hk, he, szL]
def szS (l : List Pair) (n : Int) : Int := if n < l.length then -1 else szL l (n - l.length)
theorem szL_ge (l : List Pair) (n : Int) (h : 0 ≤ szL l n) : 0 ≤ n := by
  cases l with
  | nil => exact h
  | cons e t => rw [szL] at h; have := szP_le e n; split at h <;> omega
theorem szS_len {l : List Pair} {n : Int} (h : 0 ≤ szS l n) : l.length ≤ n := by
  unfold szS at h
  split at h <;> omega
end Go.Proofs.Ytecebamhenlnoaa
