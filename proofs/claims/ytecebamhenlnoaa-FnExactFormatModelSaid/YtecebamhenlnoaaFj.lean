/- The law FnExactFormatModel, walked out of the contracts of its callees. -/
import Derived.Test.YtecebamhenlnoaaFi
import Derived.Test.YtecebamhenlnoaaBas3
namespace Go.Proofs.Ytecebamhenlnoaa
open Go.RowKit
def fmtM (r : Str) (ic : Bool) (vars : List Str) (terms : List Int) (s : Str) : Str := if isF r vars terms && isSyn s then fmtF r ic vars terms ++ (32 :: 111 :: 102 :: 32 :: (s ++ [10])) else []
theorem flat_len_le {α β : Type} {f : α → List β} {l : List α} {M : Nat} (h : ∀ x ∈ l, (f x).length ≤ M) : (l.flatMap f).length ≤ l.length * M := by
  induction l with
  | nil => simp
  | cons a t ih =>
    have h1 := ih (fun x hx => h x (List.mem_cons_of_mem _ hx))
    have h2 := h a List.mem_cons_self
    simp only [List.flatMap_cons, List.length_append, List.length_cons, Nat.succ_mul]
    omega
theorem fmtF_len {r : Str} {ic : Bool} {vars : List Str} {terms : List Int} : (fmtF r ic vars terms).length ≤ 2000 := by
  unfold fmtF
  split
  · rename_i h
    obtain ⟨h1, h2, h3, h4, h5⟩ := isF_all h
    have hr := fmtN_len h1
    have hh : (fmtHead r ic).length ≤ 26 := by unfold fmtHead; split <;> simp only [List.length_append, List.length_cons, List.length_nil] <;> omega
    have hf := flat_len_le (f := fmtT vars) (l := terms) (M := 118) (fun x hx => by
      unfold fmtT
      have := termT_len (x := x.toNat) h4 h2
      simp only [List.length_cons]; omega)
    rw [List.length_append]
    omega
  · simp
theorem fmtF_ne {r : Str} {ic : Bool} {vars : List Str} {terms : List Int} (h : isF r vars terms = true) : (fmtF r ic vars terms).isEmpty = false := by
  rw [fmtF, h]
  have hr := fmtN_len (isF_all h).1
  cases hq : fmtN r with
  | nil => rw [hq] at hr; simp at hr
  | cons a t => simp [fmtHead, hq]
set_option maxHeartbeats 1000000 in
theorem implFormatModel_any (r : Str) (ic : Bool) (A : Option Addr) (n c : Nat) (B : Option Addr) (m d : Nat) (vars : List Str) (terms : List Int) (s : Str) (w : World)
    (hv : Reads encS 1 w w.heap.size A n vars) (ht : Reads encI 1 w w.heap.size B m terms) (hr : r.length ≤ maxLen) (hvs : ∀ v ∈ vars, v.length ≤ maxLen) (hn : n ≤ maxLen) (hm : m ≤ maxLen) (hs : s.length ≤ 1048576) :
    Calls Try.prog 46 #[fval r ic A n c B m d, sv s] w fun e w' => e = .returned (sv (fmtM r ic vars terms s)) ∧ Below w.heap.size w w' := by
  have hb0 : Below w.heap.size w (w.alloc (.cells #[sv r, .bool ic, .slice A n c, .slice B m d] 62)) := (Below.refl _ _).alloc (Nat.le_refl _) _
  have hk0 := Blk.new_ w 62 #[sv r, .bool ic, .slice A n c, .slice B m d]
  have hs' : s.length ≤ maxLen := by unfold maxLen; omega
  have hfl := fmtF_len (r := r) (ic := ic) (vars := vars) (terms := terms)
  go_enter Try.func46, Try.ntmps46
  go_wp2_with fail
  refine (implIsFormula_any r ic A n c B m d vars terms _ (hv.next hb0) (ht.next hb0) hr hvs hn hm).mono ?_
  rintro e w1 ⟨rfl, hb1⟩
  have hk1 := hk0.below hb1 hk0.lt
  have hbb := bth hb0 hb1
  have hc0 : w1.cell? ⟨w.heap.size, 0, none⟩ = some (sv r) := hk1.cell 0
  have hc1 : w1.cell? ⟨w.heap.size, 1, none⟩ = some (.bool ic) := hk1.cell 1
  have hc2 : w1.cell? ⟨w.heap.size, 2, none⟩ = some (.slice A n c) := hk1.cell 2
  have hc3 : w1.cell? ⟨w.heap.size, 3, none⟩ = some (.slice B m d) := hk1.cell 3
  cases hF : isF r vars terms with
  | false =>
    go_wp2_with fail
    go_ret
    exact ⟨ret_str (by rw [fmtM, hF]; rfl), hbb⟩
  | true =>
    go_wp2_with fail
    refine (implIsSyn_any s _ hs').mono ?_
    rintro e w2 ⟨rfl, rfl⟩
    cases hS : isSyn s with
    | false =>
      go_wp2_with fail
      go_ret
      exact ⟨ret_str (by rw [fmtM, hF, hS]; rfl), hbb⟩
    | true =>
      have HR := Lib.hid (show fmtM r ic vars terms s = fmtF r ic vars terms ++ (32 :: 111 :: 102 :: 32 :: (s ++ [10])) by rw [fmtM, hF, hS]; rfl)
      clear hF hS
      go_wp2_with fail
      refine (implFormatFormula_any r ic A n c B m d vars terms _ ((hv.below hbb).more hbb.size) ((ht.below hbb).more hbb.size) hr hvs hn hm).mono ?_
      rintro e w2 ⟨rfl, hb2⟩
      go_wp2_with fail
      go_ret
      exact ⟨ret_str (by rw [HR.out]), bth hbb hb2⟩
set_option maxHeartbeats 1000000 in
theorem specFormatModel_any (r : Str) (ic : Bool) (A : Option Addr) (n c : Nat) (B : Option Addr) (m d : Nat) (vars : List Str) (terms : List Int) (s : Str) (w : World)
    (hv : Reads encS 1 w w.heap.size A n vars) (ht : Reads encI 1 w w.heap.size B m terms) (hr : r.length ≤ maxLen) (hvs : ∀ v ∈ vars, v.length ≤ maxLen) (hn : n ≤ maxLen) (hm : m ≤ maxLen) (hs : s.length ≤ 1048576) :
    Calls Try.prog 44 #[fval r ic A n c B m d, sv s] w fun e w' => e = .returned (sv (fmtM r ic vars terms s)) ∧ Below w.heap.size w w' := by
  have hb0 : Below w.heap.size w (w.alloc (.cells #[sv r, .bool ic, .slice A n c, .slice B m d] 62)) := (Below.refl _ _).alloc (Nat.le_refl _) _
  have hs' : s.length ≤ maxLen := by unfold maxLen; omega
  have hfl := fmtF_len (r := r) (ic := ic) (vars := vars) (terms := terms)
  go_enter Try.func44, Try.ntmps44
  go_wp2_with fail
  refine (specFormatFormula_any r ic A n c B m d vars terms _ (hv.next hb0) (ht.next hb0) hr hvs hn hm).mono ?_
  rintro e w1 ⟨rfl, hb1⟩
  have hbb := bth hb0 hb1
  cases hF : isF r vars terms with
  | false =>
    have he : (fmtF r ic vars terms).isEmpty = true := by rw [fmtF, hF]; rfl
    go_wp2_with fail
    go_ret
    exact ⟨ret_str (by rw [fmtM, hF]; rfl), hbb⟩
  | true =>
    have he := fmtF_ne (ic := ic) hF
    go_wp2_with fail
    refine (specIsSyn_any s _ hs').mono ?_
    rintro e w2 ⟨rfl, hb2⟩
    cases hS : isSyn s with
    | false =>
      go_wp2_with fail
      go_ret
      exact ⟨ret_str (by rw [fmtM, hF, hS]; rfl), bth hbb hb2⟩
    | true =>
      have HR := Lib.hid (show fmtM r ic vars terms s = fmtF r ic vars terms ++ (32 :: 111 :: 102 :: 32 :: (s ++ [10])) by rw [fmtM, hF, hS]; rfl)
      clear hF hS
      go_wp2_with fail
      go_ret
      exact ⟨ret_str (by rw [HR.out]), bth hbb hb2⟩
def szF (r : Str) (vars : List Str) (terms : List Int) (n : Int) : Int :=
  if n < r.length then -1 else if szTs vars (n - r.length) < 0 then -1 else if szN terms.length (szTs vars (n - r.length)) < 0 then -1 else szN terms.length (szTs vars (n - r.length))
set_option maxHeartbeats 1000000 in
theorem szFormula_any (r : Str) (ic : Bool) (A : Option Addr) (n c : Nat) (B : Option Addr) (m d : Nat) (vars : List Str) (terms : List Int) (z : Int) (w : World)
    (hv : Reads encS 1 w w.heap.size A n vars) (ht : Reads encI 1 w w.heap.size B m terms) (hr : r.length ≤ maxLen) (hvs : ∀ v ∈ vars, v.length ≤ maxLen) (hn : n ≤ maxLen) (hm : m ≤ maxLen) (h0 : 0 ≤ z) (h1 : z ≤ 1048576) :
    Calls Try.prog 43 #[fval r ic A n c B m d, .int .i64 z] w fun e w' => e = .returned (.int .i64 (szF r vars terms z)) ∧ Below w.heap.size w w' := by
  have hb0 : Below w.heap.size w (w.alloc (.cells #[sv r, .bool ic, .slice A n c, .slice B m d] 59)) := (Below.refl _ _).alloc (Nat.le_refl _) _
  have hr' : r.length ≤ 9223372036854775807 := hr
  have hm' : m ≤ 9223372036854775807 := hm
  by_cases hz : z < r.length
  · have hd : decide (z - (r.length : Int) < 0) = true := by simp; omega
    go_enter Try.func43, Try.ntmps43
    go_wp2_with fail
    go_ret
    exact ⟨ret_int (by rw [szF, if_pos hz]), hb0⟩
  · have hd : decide (z - (r.length : Int) < 0) = false := by simp; omega
    have hz' : (r.length : Int) ≤ z := by omega
    clear hz
    go_enter Try.func43, Try.ntmps43
    go_wp2_with fail
    refine (szStringS_any A n c vars _ _ (hv.next hb0) hvs hn (by omega) (by omega)).mono ?_
    rintro e w1 ⟨rfl, rfl⟩
    by_cases hq : szTs vars (z - r.length) < 0
    · go_wp2_with fail
      go_ret
      exact ⟨ret_int (by rw [szF, if_neg (show ¬ z < r.length by omega), if_pos hq]), hb0⟩
    · have hle := szTs_sizes (l := vars) (n := z - r.length) (by omega)
      go_wp2_with fail
      refine (szIntS_any B m d _ _ hm (by omega) (by omega)).mono ?_
      rintro e w1 ⟨rfl, rfl⟩
      by_cases hy : szN m (szTs vars (z - r.length)) < 0
      · go_wp2_with fail
        go_ret
        exact ⟨ret_int (by rw [szF, if_neg (show ¬ z < r.length by omega), if_neg (by omega), ht.len, if_pos hy]), hb0⟩
      · go_wp2_with fail
        go_ret
        exact ⟨ret_int (by rw [szF, if_neg (show ¬ z < r.length by omega), if_neg (by omega), ht.len, if_neg (by omega)]), hb0⟩
set_option maxHeartbeats 1000000 in
theorem toFormula_any (r : Str) (ic : Bool) (A : Option Addr) (n c : Nat) (B : Option Addr) (m d : Nat) (vars : List Str) (terms : List Int) (w : World)
    (hv : Reads encS 1 w w.heap.size A n vars) (ht : Reads encI 1 w w.heap.size B m terms) (hn : n ≤ 1048576) (hm : m ≤ 1048576) :
    Calls Try.prog 45 #[fval r ic A n c B m d] w fun e w' => ∃ g g', e = .returned (fval r ic (some ⟨g, 0, none⟩) n n (some ⟨g', 0, none⟩) m m) ∧ OwnStr w' w.heap.size (some ⟨g, 0, none⟩) n n vars ∧ OwnInt w' w.heap.size (some ⟨g', 0, none⟩) m m terms ∧ Below w.heap.size w w' := by
  go_enter Try.func45, Try.ntmps45
  go_wp2_with fail
  have q1 := (Below.refl w.heap.size w).alloc (Nat.le_refl _) (.cells #[sv r, .bool ic, .slice A n c, .slice B m d] 59)
  have q2 := q1.alloc q1.size (.cells #[sv [], .bool false, .slice none 0 0, .slice none 0 0] 62)
  have q3 := q2.alloc q2.size (.cells #[sv r, .bool ic, .slice none 0 0, .slice none 0 0] 62)
  refine (toStringS_any A n c vars _ ((hv.below q3).more q3.size) hn).mono ?_
  rintro e w2 ⟨g2, rfl, ho2, hb2⟩
  have q4 := q3.trans (hb2.mono q3.size)
  obtain ⟨hc2, hf2⟩ := bcell hb2
  have hz2 := hb2.size
  simp only [wsize_alloc] at hz2 hc2 hf2
  have hz2' : w.heap.size + 1 + 1 < w2.heap.size := by omega
  have hz2'' : w.heap.size + 1 < w2.heap.size := by omega
  have hz2i : w.heap.size < w2.heap.size := by omega
  go_wp2_with fail
  have q5 := q4.setCell (p := ⟨w.heap.size + 1 + 1, 2, none⟩) (by simp only; omega) (.slice (some ⟨g2, 0, none⟩) n n)
  refine (toIntS_any B m d terms _ ((ht.below q5).more (by rw [wsize_set]; omega)) hm).mono ?_
  rintro e w3 ⟨g3, rfl, ho3, hb3⟩
  obtain ⟨hc3, hf3⟩ := bcell hb3
  have hz3 := hb3.size
  simp only [wsize_set] at hz3 hc3 hf3
  go_wp2_with fail
  refine bodyPost_ret (v := fval r ic (some ⟨g2, 0, none⟩) n n (some ⟨g3, 0, none⟩) m m) (by simp [results, Try.results45, go_sem, hc3, hz2', hz2'', hc2]) rfl ⟨g2, g3, rfl, ?_, ?_, ?_⟩
  · refine ((((((ho2.poke (p := ⟨w.heap.size + 1 + 1, 2, none⟩) ?_ _).below hb3).poke ?_ _).poke ?_ _).poke ?_ _).poke ?_ _).poke ?_ _ |>.mono ?_ <;> simp only [wsize_alloc] <;> omega
  · refine ((((ho3.poke ?_ _).poke ?_ _).poke ?_ _).poke ?_ _).poke ?_ _ |>.mono ?_ <;> simp only [wsize_set] <;> omega
  · refine ((((((q5.trans (hb3.mono ?_)).setCell ?_ _).setCell ?_ _).setCell ?_ _).setCell ?_ _).setCell ?_ _) <;> simp only [wsize_set] <;> omega
set_option maxHeartbeats 1000000 in
theorem eqFormula_any (r : Str) (ic : Bool) (A : Option Addr) (n c : Nat) (B : Option Addr) (m d : Nat) (A' : Option Addr) (c' : Nat) (B' : Option Addr) (d' : Nat) (vars : List Str) (terms : List Int) (w : World)
    (hv : Reads encS 1 w w.heap.size A n vars) (ht : Reads encI 1 w w.heap.size B m terms) (hv' : Reads encS 1 w w.heap.size A' n vars) (ht' : Reads encI 1 w w.heap.size B' m terms) (hn : n ≤ maxLen) (hm : m ≤ maxLen) :
    Calls Try.prog 47 #[fval r ic A n c B m d, fval r ic A' n c' B' m d'] w fun e w' => e = .returned (.bool true) ∧ Below w.heap.size w w' := by
  have he : (r == r) = true := by simp
  have hei : (ic != ic) = false := by simp
  have hei2 : (ic == ic) = true := by simp
  go_enter Try.func47, Try.ntmps47
  go_wp2_with fail
  have q1 := (Below.refl w.heap.size w).alloc (Nat.le_refl _) (.cells #[sv r, .bool ic, .slice A n c, .slice B m d] 62)
  have q2 := q1.alloc q1.size (.cells #[sv r, .bool ic, .slice A' n c', .slice B' m d'] 62)
  refine (eqStringS_any A A' n n c c' vars vars _ ((hv.below q2).more q2.size) ((hv'.below q2).more q2.size) hn hn).mono ?_
  rintro e w2 ⟨rfl, hb2⟩
  have hvv : (vars == vars) = true := by simp
  have htt : (terms == terms) = true := by simp
  obtain ⟨hc2, hf2⟩ := bcell hb2
  simp only [wsize_alloc] at hc2 hf2
  have q3 := q2.trans (hb2.mono q2.size)
  go_wp2_with fail
  refine (eqIntS_any B B' m m d d' terms terms _ ((ht.below q3).more q3.size) ((ht'.below q3).more q3.size) hm hm).mono ?_
  rintro e w3 ⟨rfl, hb3⟩
  go_wp2_with fail
  go_ret
  exact ⟨rfl, bth q3 hb3⟩
end Go.Proofs.Ytecebamhenlnoaa
