/- Plain laws of caches: what was stored is found, the rest stays. No program here. -/
import Derived.Test.YtecebamhenlnoaaCd
import Derived.Test.YtecebamhenlnoaaCe
namespace Go.Proofs.Ytecebamhenlnoaa
theorem isC_iff (l : List Pair) : isC l = true ↔ l.length ≤ 8 ∧ (l.map (·.1)).Pairwise (· ≠ ·) := by simp only [isC]; simp
theorem stE_eq {l : List Pair} (h : isC l = true) (key out : Str) : stE l key out = ((key, out) :: keepE l key).take 8 := by rw [stE, if_pos h]
theorem keepE_sub (l : List Pair) (key : Str) : (keepE l key).Sublist l := List.filter_sublist
theorem keepE_ne (l : List Pair) (key : Str) : ∀ e ∈ keepE l key, e.1 ≠ key := by
  intro e he; simp [keepE] at he; exact he.2
theorem stored_isC {l : List Pair} (h : isC l = true) (key out : Str) : isC (stE l key out) = true := by
  rw [isC_iff] at h ⊢
  rw [stE_eq (by rw [isC_iff]; exact h)]
  refine ⟨List.length_take_le _ _, ?_⟩
  have hp : (((key, out) :: keepE l key).map (·.1)).Pairwise (· ≠ ·) := by
    rw [List.map_cons, List.pairwise_cons]
    refine ⟨fun k hk => ?_, ?_⟩
    · obtain ⟨e, he, rfl⟩ := List.mem_map.1 hk
      exact fun h' => keepE_ne l key e he h'.symm
    · exact h.2.sublist ((keepE_sub l key).map _)
  exact hp.sublist ((List.take_sublist 8 _).map _)
theorem fk_head (key out : Str) (t : List Pair) : fk ((key, out) :: t) key 0 = 0 := by rw [fk, if_pos rfl]; rfl
theorem stored_cons {l : List Pair} (h : isC l = true) (key out : Str) : stE l key out = (key, out) :: (keepE l key).take 7 := by
  rw [stE_eq h]; rfl
theorem stored_found {l : List Pair} (h : isC l = true) (key out : Str) : lkE (stE l key out) key = (out, stE l key out, true) := by
  have h1 := stored_isC h key out
  have h2 := stored_cons h key out
  have hf : fk (stE l key out) key 0 = 0 := by rw [h2, fk_head]
  have h3 : (stE l key out)[0]? = some (key, out) := by rw [h2]; rfl
  unfold lkE
  rw [if_pos ⟨h1, by rw [hf]; omega⟩, hf]
  simp only [Int.toNat_zero, h3, Option.getD_some]
  congr 2
  have h4 : keepE (stE l key out) key = (keepE l key).take 7 := by
    rw [h2]
    have : ∀ e ∈ (keepE l key).take 7, (!(e.1 == key)) = true := by
      intro e he
      have := keepE_ne l key e (List.mem_of_mem_take he)
      simpa using this
    rw [keepE, List.filter_cons_of_neg (by simp), List.filter_eq_self.2 this]
  rw [stE_eq h1, h4, ← h2, List.take_of_length_le (stE_len l key out)]
theorem key_once {s : List Pair} (h : (s.map (·.1)).Pairwise (· ≠ ·)) {i j : Nat} {a b : Pair} (ha : s[i]? = some a) (hb : s[j]? = some b) (he : a.1 = b.1) : a = b := by
  have hi := List.getElem?_eq_some_iff.1 ha
  have hj := List.getElem?_eq_some_iff.1 hb
  rw [List.pairwise_iff_getElem] at h
  by_cases hij : i = j
  · subst hij; rw [ha] at hb; injection hb
  · rcases Nat.lt_or_gt_of_ne hij with hlt | hlt
    · have := h i j (by simpa using hi.1) (by simpa using hj.1) hlt
      simp [hi.2, hj.2, he] at this
    · have := h j i (by simpa using hj.1) (by simpa using hi.1) hlt
      simp [hi.2, hj.2, he] at this
theorem look_mem {s : List Pair} (h : isC s = true) {j : Nat} {e : Pair} (hx : s[j]? = some e) : (lkE s e.1).1 = e.2 ∧ (lkE s e.1).2.2 = true := by
  have h1 := fk_at s e.1 j e 0 hx rfl
  obtain ⟨m, hm⟩ : ∃ m : Nat, fk s e.1 0 = m := ⟨(fk s e.1 0).toNat, by omega⟩
  obtain ⟨e', h2, h3⟩ := fk_hit s e.1 0 m (by rw [hm]; omega)
  have h4 := key_once ((isC_iff s).1 h).2 h2 hx h3
  subst h4
  unfold lkE
  rw [if_pos ⟨h, by omega⟩, hm]
  simp [h2]
theorem rest_found {l : List Pair} (h : isC l = true) (key out : Str) (i : Nat) (e : Pair) (hx : l[i]? = some e) (hi : i + 1 < l.length) :
    (lkE (stE l key out) e.1).2.2 = true ∧ (e.1 ≠ key → (lkE (stE l key out) e.1).1 = e.2) := by
  by_cases he : e.1 = key
  · rw [he, stored_found h]; exact ⟨rfl, fun h => absurd rfl h⟩
  · have h1 := stored_isC h key out
    have hl := ((isC_iff l).1 h).1
    have e1 : keepE l key = keepE (l.take i) key ++ e :: keepE (l.drop (i + 1)) key := by
      obtain ⟨hk, hxe⟩ := List.getElem?_eq_some_iff.1 hx
      have e2 : l = l.take i ++ e :: l.drop (i + 1) := by rw [← hxe, ← List.drop_eq_getElem_cons hk, List.take_append_drop]
      conv => lhs; rw [e2]
      rw [keepE, List.filter_append, List.filter_cons_of_pos (by simpa using he)]
      rfl
    have hp : (keepE (l.take i) key).length ≤ i := keepE_len l key i
    have hin : (stE l key out)[(keepE (l.take i) key).length + 1]? = some e := by
      rw [stored_cons h, List.getElem?_cons_succ, List.getElem?_take, if_pos (by omega), e1, List.getElem?_append_right (by omega)]
      simp
    have := look_mem h1 hin
    exact ⟨this.2, fun _ => this.1⟩
end Go.Proofs.Ytecebamhenlnoaa
