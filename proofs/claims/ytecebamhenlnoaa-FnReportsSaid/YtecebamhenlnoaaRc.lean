/- Reports: when a list of parts is one: what IsReport of the program and of the reference return. -/
import Derived.Test.YtecebamhenlnoaaRb
import Derived.Test.YtecebamhenlnoaaPfPart
namespace Go.Proofs.Ytecebamhenlnoaa
open Go.RowKit
def ndl (s : Str) : Bool := s.isEmpty || ((s[s.length - 1]?).getD 0).toNat == 10
theorem endsWithLine_any (s : Str) (w : World) (hs : (s.length : Int) ≤ 4194304) :
    Calls Try.prog 64 #[sv s] w fun e w' => e = .returned (.bool (ndl s)) ∧ w = w' := by
  by_cases h0 : s = []
  · subst h0
    go_enter Try.func64, Try.ntmps64
    go_wp2
    go_ret
    exact ⟨rfl, rfl⟩
  · have hl : 1 ≤ s.length := by cases s with | nil => exact absurd rfl h0 | cons => simp
    have h0' : s.isEmpty = false := by cases s with | nil => exact absurd rfl h0 | cons => rfl
    have hd : ndl s = ((s[s.length - 1].toNat : Int) == 10) := by
      rw [ndl, h0', List.getElem?_eq_getElem (by omega), Bool.false_or, Option.getD_some, Bool.eq_iff_iff]; simp; omega
    have HD := Lib.hid hd
    clear hd
    have l1 : 1 ≤ (s.length : Int) := by omega
    go_enter Try.func64, Try.ntmps64
    go_wp2
    go_ret
    exact ⟨ret_bool (by rw [HD.out]), rfl⟩
/-- What l37Text asks of a text. -/
def txtOK (s : Str) (chunk : Bool) : Bool := (if chunk then !(lns s).contains [64] else !(lns s).any (fun x => (opn x).2)) && ndl s
theorem any_bad {α : Type} {p : α → Bool} {s : List α} {k : Nat} {c : α} (h : s[k]? = some c) (hb : p c = true) : s.any p = true := by
  rw [List.any_eq_true]; exact ⟨c, List.mem_of_getElem? h, hb⟩
theorem any_snoc {α : Type} {p : α → Bool} {s : List α} {k : Nat} {c : α} (h : s[k]? = some c) (ha : (s.take k).any p = false) (hb : p c = false) : (s.take (k + 1)).any p = false := by
  rw [take_snoc' h, List.any_append, ha]; simp [hb]
theorem contains_any (l : List Str) (x : Str) : l.contains x = l.any (· == x) := by
  rw [Bool.eq_iff_iff]; simp
set_option maxHeartbeats 1000000 in
theorem l37Text_any (s : Str) (chunk : Bool) (w : World) (hs : (s.length : Int) ≤ 2097152) :
    Calls Try.prog 60 #[sv s, .bool chunk] w fun e w' => e = .returned (.bool (txtOK s chunk)) ∧ Below w.heap.size w w' := by
  go_enter Try.func60, Try.ntmps60
  go_wp2_with fail
  refine (l37Lines_any s _ (by omega)).mono ?_
  rintro e w1 ⟨A, n, c, rfl, ho, hb⟩
  have hr := ho.reads encS_len
  have hll := lns_len s
  have hlen := ho.len
  rw [List.length_map] at hlen
  have hns : n ≤ 2097152 := by omega
  have HN := Lib.hid hlen
  clear hlen
  go_wp2_with fail
  go_loop [6] (fun i => ∃ k : Nat, k ≤ n ∧ i = .int .i64 k ∧ ((lns s).take k).any (fun x => if chunk then x == [64] else (opn x).2) = false) (fun i => n - (intOf i).toNat)
  case atStart => exact ⟨0, by omega, rfl, rfl⟩
  case round =>
    obtain ⟨k, hk, rfl, hf⟩ := hrel
    have HF := Lib.hid hf
    clear hf
    by_cases hlt : k < n
    · obtain ⟨b, off, x', rfl, hbl, hx', hc0⟩ := hr.atS hlt
      obtain ⟨x, hx, rfl⟩ : ∃ x, (lns s)[k]? = some x ∧ x' = x ++ [10] := by
        rw [List.getElem?_map] at hx'
        cases h : (lns s)[k]? with
        | none => rw [h] at hx'; cases hx'
        | some x => rw [h] at hx'; injection hx' with hx'; exact ⟨x, rfl, hx'.symm⟩
      have hxl := lns_sizes s x (List.mem_of_getElem? hx)
      have HX := Lib.hid hx
      clear hx hx'
      cases chunk with
      | true =>
        have hq : ((x ++ [10]) == [64, 10]) = (x == [64]) := by
          rw [Bool.eq_iff_iff]; simp only [beq_iff_eq]
          constructor
          · intro h; exact List.append_inj_left' (t₁ := [10]) (t₂ := [10]) (s₂ := [64]) h rfl
          · rintro rfl; rfl
        cases h64 : (x == [64]) with
        | true =>
          rw [h64] at hq
          go_wp2_with fail
          go_ret
          refine ⟨ret_bool ?_, hb⟩
          rw [txtOK, if_pos rfl, contains_any, any_bad HX.out h64]; rfl
        | false =>
          rw [h64] at hq
          go_wp2_with fail
          go_round
          case rel => exact ⟨k + 1, by omega, by go_num, any_snoc HX.out HF.out h64⟩
          case measure => simp [intOf]; omega
      | false =>
        go_wp2_with fail
        refine (l37Open_any x _ (by omega)).mono ?_
        rintro e w2 ⟨rfl, rfl⟩
        have hne : (opnS x).isEmpty = !(opn x).2 := by
          have := opnS_ne x
          cases h : opnS x with
          | nil => rw [h] at this; simp at this; simp [this]
          | cons a t => rw [h] at this; simp at this; simp [this]
        cases ho : (opn x).2 with
        | true =>
          rw [ho] at hne
          go_wp2_with fail
          go_ret
          refine ⟨ret_bool ?_, hb⟩
          rw [txtOK, if_neg (by simp), any_bad HX.out ho]; rfl
        | false =>
          rw [ho] at hne
          go_wp2_with fail
          go_round
          case rel => exact ⟨k + 1, by omega, by go_num, any_snoc HX.out HF.out ho⟩
          case measure => simp [intOf]; omega
    · obtain rfl : k = n := by omega
      have hres : txtOK s chunk = ndl s := by
        have hf := HF.out
        rw [List.take_of_length_le (by rw [HN.out]; omega)] at hf
        cases chunk with
        | true => rw [txtOK, if_pos rfl, contains_any, show (lns s).any (· == [64]) = false from hf]; rfl
        | false => rw [txtOK, if_neg (by simp), show (lns s).any (fun x => (opn x).2) = false from hf]; rfl
      have HR := Lib.hid hres
      clear hres
      by_cases h0 : s = []
      · subst h0
        go_wp2
        go_ret
        exact ⟨ret_bool (by rw [HR.out]; rfl), hb⟩
      · have hl : 1 ≤ s.length := by cases s with | nil => exact absurd rfl h0 | cons => simp
        have h0' : s.isEmpty = false := by cases s with | nil => exact absurd rfl h0 | cons => rfl
        have hd : ndl s = ((s[s.length - 1].toNat : Int) == 10) := by
          rw [ndl, h0', List.getElem?_eq_getElem (by omega), Bool.false_or, Option.getD_some, Bool.eq_iff_iff]; simp; omega
        have HD := Lib.hid hd
        clear hd
        have l1 : 1 ≤ (s.length : Int) := by omega
        go_wp2
        go_ret
        exact ⟨ret_bool (by rw [HR.out, HD.out]), hb⟩
/-- One part after others: none where it may not stand there, else the names so far. -/
def stp (prev : Bool) (names : List Str) (p : Pair) : Option (List Str) :=
  if ndl p.2 = false then none
  else if p.1 = [] then (if p.2 = [] ∨ prev = true then none else if (lns p.2).any (fun x => (opn x).2) = true then none else some names)
  else if isNm p.1 = false ∨ names.contains p.1 = true ∨ (lns p.2).contains [64] = true then none else some (names ++ [p.1])
def irep : Bool → List Str → List Pair → Bool
  | _, names, [] => decide (names.length ≤ 6)
  | prev, names, p :: t => match stp prev names p with | none => false | some n => irep p.1.isEmpty n t
def repOK (l : List Pair) : Bool := decide (l.length ≤ 13) && irep false [] l
def prevOf (l : List Pair) (k : Nat) : Bool := decide (0 < k) && ((l[k - 1]?).getD ([1], [])).1.isEmpty
theorem irep_drop {l : List Pair} {k : Nat} {p : Pair} (h : l[k]? = some p) (prev : Bool) (names : List Str) : irep prev names (l.drop k) = match stp prev names p with | none => false | some n => irep (prevOf l (k + 1)) n (l.drop (k + 1)) := by
  obtain ⟨hk, he⟩ := List.getElem?_eq_some_iff.1 h
  rw [List.drop_eq_getElem_cons hk, he, irep]
  have : prevOf l (k + 1) = p.1.isEmpty := by simp [prevOf, h]
  rw [this]
end Go.Proofs.Ytecebamhenlnoaa
