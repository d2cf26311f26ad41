/- Texts joined by a sign; the names of a term. -/
import Derived.Test.YtecebamhenlnoaaFg
namespace Go.Proofs.Ytecebamhenlnoaa
open Go.RowKit
theorem flat_snoc' {α β : Type} {f : α → List β} {l : List α} {k : Nat} {x : α} (h : l[k]? = some x) : (l.take (k + 1)).flatMap f = (l.take k).flatMap f ++ f x := by
  rw [take_snoc' h, List.flatMap_append]; simp
def joinT (sep : Str) : List Str → Str
  | [] => []
  | a :: t => a ++ t.flatMap (sep ++ ·)
theorem joinT_snoc {sep : Str} {l : List Str} {k : Nat} {x : Str} (h : l[k]? = some x) : joinT sep (l.take (k + 1)) = if k = 0 then x else joinT sep (l.take k) ++ (sep ++ x) := by
  rw [take_snoc' h]
  obtain ⟨hk, he⟩ := List.getElem?_eq_some_iff.1 h
  cases l with
  | nil => simp at h
  | cons a t =>
    cases k with
    | zero => simp at h; simp [joinT, h]
    | succ k => simp [joinT]
theorem joinT_len {sep : Str} {l : List Str} {M : Nat} (h : ∀ e ∈ l, e.length ≤ M) : (joinT sep l).length ≤ l.length * (M + sep.length) := by
  cases l with
  | nil => simp [joinT]
  | cons a t =>
    have hf : (t.flatMap (sep ++ ·)).length ≤ t.length * (M + sep.length) := by
      have ht : ∀ e ∈ t, e.length ≤ M := fun e he => h e (List.mem_cons_of_mem _ he)
      clear h
      induction t with
      | nil => simp
      | cons b u ih =>
        have := ih (fun e he => ht e (List.mem_cons_of_mem _ he))
        have := ht b List.mem_cons_self
        simp only [List.flatMap_cons, List.length_append, List.length_cons, Nat.succ_mul]
        omega
    have := h a List.mem_cons_self
    simp only [joinT, List.length_append, List.length_cons, Nat.succ_mul]
    omega
set_option maxHeartbeats 1000000 in
theorem joinTexts_any (A : Option Addr) (len cap : Nat) (l : List Str) (sep : Str) (w : World) (hr : Reads encS 1 w w.heap.size A len l) (hlen : len ≤ 1048576) (hs : ∀ e ∈ l, e.length ≤ 1048576) (hsep : sep.length ≤ 1048576) :
    Calls Try.prog 103 #[.slice A len cap, sv sep] w fun e w' => e = .returned (sv (joinT sep l)) ∧ w = w' := by
  go_enter Try.func103, Try.ntmps103
  go_wp2
  go_loop [5, 10] (fun v i => ∃ (k : Nat) (s : Str), k ≤ len ∧ i = .int .i64 k ∧ v = sv s ∧ s = joinT sep (l.take k) ∧ s.length ≤ k * 2097152) (fun _ i => len - (intOf i).toNat)
  case atStart => exact ⟨0, [], by omega, rfl, rfl, rfl, by simp⟩
  case round =>
    obtain ⟨k, s, hk, rfl, rfl, hss, hsl⟩ := hrel
    have HS := Lib.hid hss
    clear hss
    by_cases hlt : k < len
    · obtain ⟨b, off, x, rfl, hbl, hx, hc0⟩ := hr.atS hlt
      have hm := hs _ (List.mem_of_getElem? hx)
      have HD := Lib.hid (joinT_snoc (sep := sep) hx)
      clear hx
      rcases Nat.eq_zero_or_pos k with h0 | h0
      · have hk0 : ¬ (0 : Int) < (k : Int) := by omega
        have hs0 : s = [] := by rw [HS.out, h0]; rfl
        have H0 := Lib.hid h0
        clear h0
        subst hs0
        go_wp2
        go_round
        case rel => exact ⟨k + 1, x, by omega, by go_num, by simp, by rw [HD.out, if_pos H0.out], by omega⟩
        case measure => simp [intOf]; omega
      · have hk0 : (0 : Int) < (k : Int) := by omega
        go_wp2
        go_round
        case rel => exact ⟨k + 1, s ++ (sep ++ x), by omega, by go_num, by simp, by rw [HD.out, if_neg (by omega), HS.out], by simp; omega⟩
        case measure => simp [intOf]; omega
    · obtain rfl : k = len := by omega
      go_wp2
      go_ret
      exact ⟨ret_str (by rw [HS.out, List.take_of_length_le (by rw [hr.len]; omega)]), rfl⟩
def bitOn (x i : Nat) : Bool := x / 2 ^ i % 2 == 1
/-- The variables of a term: those whose bit is set; i counts the variables ahead. -/
def tn (x : Nat) : Nat → List Str → List Str
  | _, [] => []
  | i, v :: t => if bitOn x i then v :: tn x (i + 1) t else tn x (i + 1) t
theorem tn_app (x : Nat) (i : Nat) (l l' : List Str) : tn x i (l ++ l') = tn x i l ++ tn x (i + l.length) l' := by
  induction l generalizing i with
  | nil => rfl
  | cons a t ih =>
    simp only [List.cons_append, tn, ih, List.length_cons]
    rw [show i + (t.length + 1) = i + 1 + t.length by omega]
    split <;> simp
theorem tn_snoc {x : Nat} {l : List Str} {k : Nat} {v : Str} (h : l[k]? = some v) : tn x 0 (l.take (k + 1)) = tn x 0 (l.take k) ++ (if bitOn x k then [v] else []) := by
  rw [take_snoc' h, tn_app]
  obtain ⟨hk, he⟩ := List.getElem?_eq_some_iff.1 h
  rw [List.length_take_of_le (by omega), Nat.zero_add, tn, tn]
theorem tn_sub (x i : Nat) (l : List Str) : ∀ e ∈ tn x i l, e ∈ l := by
  induction l generalizing i with
  | nil => simp [tn]
  | cons a t ih =>
    intro e he
    rw [tn] at he
    split at he
    · rcases List.mem_cons.1 he with rfl | he
      · exact List.mem_cons_self
      · exact List.mem_cons_of_mem _ (ih _ e he)
    · exact List.mem_cons_of_mem _ (ih _ e he)
theorem tn_len (x i : Nat) (l : List Str) : (tn x i l).length ≤ l.length := by
  induction l generalizing i with
  | nil => simp [tn]
  | cons a t ih =>
    rw [tn]
    have := ih (i + 1)
    split <;> simp <;> omega
theorem bit_test (x k : Nat) (hx : x < 1000000) : (bits BinOp.and IntKind.i64 ((x : Int) / 2 ^ k) 1 == 1) = bitOn x k := by
  have h1 : ((x : Int) / 2 ^ k) = ((x / 2 ^ k : Nat) : Int) := by simp
  have h2 : x / 2 ^ k ≤ x := Nat.div_le_self _ _
  have h3 := i64_and_nat (x / 2 ^ k) 1 (by omega) (by omega)
  rw [Nat.and_one_is_mod] at h3
  rw [h1]
  rw [show ((1 : Int)) = ((1 : Nat) : Int) from rfl, h3, bitOn, Bool.eq_iff_iff]
  simp; omega
set_option maxHeartbeats 2000000 in
theorem termNames_any (r : Str) (ic : Bool) (A : Option Addr) (n c : Nat) (B : Option Addr) (m d : Nat) (vars : List Str) (x : Nat) (w : World)
    (hv : Reads encS 1 w w.heap.size A n vars) (hn : n ≤ 5) (hx : x < 32) :
    Calls Try.prog 102 #[fval r ic A n c B m d, .int .i64 x] w fun e w' => ∃ A' n' c', e = .returned (.slice A' n' c') ∧ OwnStr w' w.heap.size A' n' c' (tn x 0 vars) ∧ Below w.heap.size w w' := by
  have hb0 : Below w.heap.size w (w.alloc (.cells #[sv r, .bool ic, .slice A n c, .slice B m d] 62)) := (Below.refl _ _).alloc (Nat.le_refl _) _
  go_enter Try.func102, Try.ntmps102
  go_wp2_with fail
  go_loopw [5, 11] (fun v i wr => ∃ (k : Nat) (A' : Option Addr) (n' c' : Nat), k ≤ n ∧ n' ≤ k ∧ i = .int .i64 k ∧ v = .slice A' n' c' ∧ OwnStr wr w.heap.size A' n' c' (tn x 0 (vars.take k)) ∧ Below w.heap.size w wr) (fun _ i _ => n - (intOf i).toNat)
  case atStart => exact ⟨0, none, 0, 0, by omega, by omega, rfl, rfl, Own.nil_, hb0⟩
  case round =>
    obtain ⟨k, A', n', c', hk, hnk, rfl, rfl, ho, hb⟩ := hrel
    have hbs := hb.size
    by_cases hlt : k < n
    · obtain ⟨b, off, y, rfl, hbl, hy, hc0⟩ := (hv.below hb).atS hlt
      have HX := Lib.hid (tn_snoc (x := x) hy)
      clear hy
      have hbt := bit_test x k (by omega)
      cases hbx : bitOn x k with
      | false =>
        rw [hbx] at hbt
        go_wp2_with fail
        go_roundw
        case rel => exact ⟨k + 1, A', n', c', by omega, by omega, by go_num, rfl, by rw [HX.out, hbx, if_neg (by simp), List.append_nil]; exact ho, hb⟩
        case measure => simp [intOf]; omega
      | true =>
        rw [hbx] at hbt
        go_wp2_with (first | (at_builtin; refine wpList_app1 encS tyStr encS_len encS_one rfl _ _ rfl w.heap.size _ n' c' _ rfl (ho.alloc _) y _ 0 1 rfl (newsS _ _ _ _ ?_) ?_ ?_ ?_ ?_; (rfl); (omega); (unfold maxLen; omega); (simp; omega); intro g3 c3 w3 ho3 hg3 hb3 hat3))
        go_roundw
        case rel => exact ⟨k + 1, _, n' + 1, c3, by omega, by omega, by go_num, rfl, by rw [HX.out, hbx, if_pos rfl]; exact ho3, (hb.alloc hbs _).trans hb3⟩
        case measure => simp [intOf]; omega
    · obtain rfl : k = n := by omega
      rw [List.take_of_length_le (by rw [hv.len]; omega)] at ho
      go_wp2_with fail
      go_ret
      exact ⟨A', n', c', rfl, ho, hb⟩
end Go.Proofs.Ytecebamhenlnoaa
