/- Plain law: a report is read back from its text. No program here. -/
import Derived.Test.YtecebamhenlnoaaRj
import Derived.Test.YtecebamhenlnoaaRg
namespace Go.Proofs.Ytecebamhenlnoaa
/-- A text that ends with a line feed, or is empty. -/
theorem ndl_cons (c : UInt8) (t : Str) : ndl (c :: t) = if t = [] then c.toNat == 10 else ndl t := by
  cases t with
  | nil => simp [ndl]
  | cons d u => simp [ndl]
theorem lnsA_app (cur a b : Str) (h : a = [] ∧ cur = [] ∨ a ≠ [] ∧ ndl a = true) : lnsA cur (a ++ b) = lnsA cur a ++ lnsA [] b := by
  induction a generalizing cur with
  | nil =>
    rcases h with ⟨_, rfl⟩ | ⟨h, _⟩
    · rfl
    · exact absurd rfl h
  | cons c t ih =>
    rcases h with ⟨h, _⟩ | ⟨_, h⟩
    · cases h
    · rw [ndl_cons] at h
      rw [List.cons_append, lnsA, lnsA]
      by_cases hc : c.toNat = 10
      · rw [if_pos hc, if_pos hc, List.cons_append]
        by_cases ht : t = []
        · subst ht; rfl
        · rw [if_neg ht] at h
          rw [ih [] (.inr ⟨ht, h⟩)]
      · rw [if_neg hc, if_neg hc]
        by_cases ht : t = []
        · subst ht; rw [if_pos rfl] at h; simp at h; exact absurd h hc
        · rw [if_neg ht] at h
          exact ih _ (.inr ⟨ht, h⟩)
theorem lns_app (a b : Str) (h : ndl a = true) : lns (a ++ b) = lns a ++ lns b := by
  by_cases ha : a = []
  · subst ha; rfl
  · exact lnsA_app [] a b (.inr ⟨ha, h⟩)
/-- One line. -/
theorem lnsA_line (cur z b : Str) (h : ∀ c ∈ z, c.toNat ≠ 10) : lnsA cur (z ++ 10 :: b) = (cur ++ z) :: lnsA [] b := by
  induction z generalizing cur with
  | nil => rw [List.nil_append, lnsA, if_pos (by decide), List.append_nil]
  | cons c t ih =>
    rw [List.cons_append, lnsA, if_neg (h c (by simp)), ih _ (fun d hd => h d (by simp [hd]))]
    simp
theorem lnsA_join (cur s : Str) (h : s = [] ∧ cur = [] ∨ s ≠ [] ∧ ndl s = true) : (lnsA cur s).flatMap (· ++ [10]) = cur ++ s := by
  induction s generalizing cur with
  | nil =>
    rcases h with ⟨_, rfl⟩ | ⟨h, _⟩
    · rfl
    · exact absurd rfl h
  | cons c t ih =>
    rcases h with ⟨h, _⟩ | ⟨_, h⟩
    · cases h
    · rw [ndl_cons] at h
      rw [lnsA]
      by_cases hc : c.toNat = 10
      · have hc' : c = 10 := UInt8.toNat_inj.1 hc
        rw [if_pos hc, List.flatMap_cons]
        by_cases ht : t = []
        · subst ht; subst hc'; simp [lnsA]
        · rw [if_neg ht] at h
          rw [ih [] (.inr ⟨ht, h⟩)]
          subst hc'; simp
      · rw [if_neg hc]
        by_cases ht : t = []
        · subst ht; rw [if_pos rfl] at h; simp at h; exact absurd h hc
        · rw [if_neg ht] at h
          rw [ih _ (.inr ⟨ht, h⟩)]; simp
theorem lns_join {s : Str} (h : ndl s = true) : (lns s).flatMap (· ++ [10]) = s := by
  by_cases hs : s = []
  · subst hs; rfl
  · have := lnsA_join [] s (.inr ⟨hs, h⟩); rw [List.nil_append] at this; exact this
theorem addL_snoc (out : List Pair) (p : Pair) (t : Str) : addL (out ++ [p]) t = out ++ [(p.1, p.2 ++ t)] := by
  have h : (out ++ [p])[(out ++ [p]).length - 1]? = some p := by simp
  rw [addL_at h]
  simp
theorem lastE_snoc (out : List Pair) (p : Pair) : lastE (out ++ [p]) = p.1.isEmpty := by
  have h : (out ++ [p])[(out ++ [p]).length - 1]? = some p := by simp
  rw [lastE_at h]
/-- Lines of prose behind prose. -/
theorem fold_prose (L : List Str) (out : List Pair) (y : Str) (h : L.any (fun x => (opn x).2) = false) : L.foldl pst (out ++ [([], y)], false) = (out ++ [([], y ++ L.flatMap (· ++ [10]))], false) := by
  induction L generalizing y with
  | nil => simp
  | cons z t ih =>
    rw [List.any_cons, Bool.or_eq_false_iff] at h
    rw [List.foldl_cons]
    have : pst (out ++ [([], y)], false) z = (out ++ [([], y ++ (z ++ [10]))], false) := by
      rw [pst, if_neg (by simp), if_neg (by rw [h.1]; simp), if_pos (by rw [lastE_snoc]; rfl), addL_snoc]
    rw [this, ih _ h.2]; simp
theorem fold_prose0 (L : List Str) (out : List Pair) (hl : lastE out = false) (hne : L ≠ []) (h : L.any (fun x => (opn x).2) = false) : L.foldl pst (out, false) = (out ++ [([], L.flatMap (· ++ [10]))], false) := by
  cases L with
  | nil => exact absurd rfl hne
  | cons z t =>
    rw [List.any_cons, Bool.or_eq_false_iff] at h
    rw [List.foldl_cons]
    have : pst (out, false) z = (out ++ [([], z ++ [10])], false) := by
      rw [pst, if_neg (by simp), if_neg (by rw [h.1]; simp), if_neg (by rw [hl]; simp)]
    rw [this, fold_prose t out _ h.2]; simp
theorem fold_chunk (L : List Str) (out : List Pair) (x y : Str) (h : L.contains [64] = false) : L.foldl pst (out ++ [(x, y)], true) = (out ++ [(x, y ++ L.flatMap (· ++ [10]))], true) := by
  induction L generalizing y with
  | nil => simp
  | cons z t ih =>
    rw [List.contains_cons, Bool.or_eq_false_iff] at h
    have hz : ¬ z = [64] := by have := h.1; simp at this; exact fun e => this e.symm
    rw [List.foldl_cons]
    have : pst (out ++ [(x, y)], true) z = (out ++ [(x, y ++ (z ++ [10]))], true) := by
      rw [pst, if_pos rfl, if_neg hz, addL_snoc]
    rw [this, ih _ h.2]; simp
theorem nm_no10 {x : Str} (h : isNm x = true) : ∀ c ∈ x, c.toNat ≠ 10 := by
  intro c hc h10
  rw [isNm, Bool.and_eq_true, List.all_eq_true] at h
  have := h.1 c hc
  simp [okB] at this; omega
theorem opn_head {x : Str} (h : isNm x = true) : opn (60 :: 60 :: (x ++ [62, 62, 61])) = (x, true) := by
  have hl : 1 ≤ x.length := by cases x with | nil => exact absurd rfl (isNm_ne h) | cons => simp
  have hlen : (60 :: 60 :: (x ++ [62, 62, 61]) : Str).length = x.length + 5 := by simp
  have hm : mid (60 :: 60 :: (x ++ [62, 62, 61])) = x := by
    rw [mid, hlen]
    simp
  rw [opn, if_pos ?_, hm, h]
  refine ⟨by rw [hlen]; omega, rfl, ?_⟩
  rw [hlen, show x.length + 5 - 3 = x.length + 2 from by omega]
  simp
theorem chunk_lines (x y b : Str) (hx : isNm x = true) (hy : ndl y = true) : lns (60 :: 60 :: (x ++ (62 :: 62 :: 61 :: 10 :: (y ++ [64, 10]))) ++ b) = (60 :: 60 :: (x ++ [62, 62, 61])) :: (lns y ++ ([64] :: lns b)) := by
  have e : 60 :: 60 :: (x ++ (62 :: 62 :: 61 :: 10 :: (y ++ [64, 10]))) ++ b = (60 :: 60 :: (x ++ [62, 62, 61])) ++ 10 :: (y ++ (64 :: 10 :: b)) := by simp
  rw [e, lns, lnsA_line _ _ _ ?_]
  · rw [List.nil_append]
    congr 1
    show lns (y ++ (64 :: 10 :: b)) = _
    rw [lns_app _ _ hy]
    congr 1
  · intro c hc
    have h10 := nm_no10 hx
    simp at hc
    rcases hc with rfl | hc | rfl | rfl
    · decide
    · exact h10 c hc
    · decide
    · decide
theorem lns_ne {y : Str} (h : ndl y = true) (hy : y ≠ []) : lns y ≠ [] := by
  intro e
  have := lns_join h
  rw [e] at this
  exact hy this.symm
theorem parse_parts (l : List Pair) (out : List Pair) (names : List Str) (hr : irep (lastE out) names l = true) : (lns (l.flatMap partT)).foldl pst (out, false) = (out ++ l, false) := by
  induction l generalizing out names with
  | nil => simp [lns, lnsA]
  | cons p t ih =>
    obtain ⟨x, y⟩ := p
    rw [irep] at hr
    rw [List.flatMap_cons]
    by_cases hx : x = []
    · subst hx
      have hs : stp (lastE out) names ([], y) = some names ∧ ndl y = true ∧ y ≠ [] ∧ lastE out = false ∧ (lns y).any (fun x => (opn x).2) = false := by
        rw [stp] at hr ⊢
        simp only at hr ⊢
        by_cases h1 : ndl y = false
        · rw [if_pos h1] at hr; cases hr
        · rw [if_neg h1] at hr ⊢
          rw [if_pos trivial] at hr ⊢
          by_cases h2 : y = [] ∨ lastE out = true
          · rw [if_pos h2] at hr; cases hr
          · rw [if_neg h2] at hr ⊢
            by_cases h3 : (lns y).any (fun x => (opn x).2) = true
            · rw [if_pos h3] at hr; cases hr
            · rw [if_neg h3] at hr ⊢
              simp at h1 h2 h3
              exact ⟨rfl, h1, h2.1, h2.2, by simpa using h3⟩
      obtain ⟨hs1, hy1, hy2, hl, ha⟩ := hs
      rw [hs1] at hr
      simp only at hr
      have hp : partT ([], y) = y := rfl
      rw [hp, lns_app _ _ hy1, List.foldl_append, fold_prose0 _ _ hl (lns_ne hy1 hy2) ha, lns_join hy1]
      have := ih (out ++ [([], y)]) names (by rw [lastE_snoc]; exact hr)
      rw [this]; simp
    · have hs : stp (lastE out) names (x, y) = some (names ++ [x]) ∧ ndl y = true ∧ isNm x = true ∧ (lns y).contains [64] = false := by
        rw [stp] at hr ⊢
        simp only at hr ⊢
        by_cases h1 : ndl y = false
        · rw [if_pos h1] at hr; cases hr
        · rw [if_neg h1] at hr ⊢
          rw [if_neg hx] at hr ⊢
          by_cases h2 : isNm x = false ∨ names.contains x = true ∨ (lns y).contains [64] = true
          · rw [if_pos h2] at hr; cases hr
          · rw [if_neg h2] at hr ⊢
            refine ⟨rfl, by simpa using h1, ?_, ?_⟩
            · cases h : isNm x with
              | true => rfl
              | false => exact absurd (.inl h) h2
            · cases h : (lns y).contains [64] with
              | false => rfl
              | true => exact absurd (.inr (.inr h)) h2
      obtain ⟨hs1, hy1, hn, hc⟩ := hs
      rw [hs1] at hr
      simp only at hr
      have hp : partT (x, y) = 60 :: 60 :: (x ++ (62 :: 62 :: 61 :: 10 :: (y ++ [64, 10]))) := by rw [partT, if_neg hx]
      rw [hp, chunk_lines x y _ hn hy1, List.foldl_cons]
      have e1 : pst (out, false) (60 :: 60 :: (x ++ [62, 62, 61])) = (out ++ [(x, [])], true) := by
        rw [pst, if_neg (by simp), if_pos (by rw [opn_head hn]), opn_head hn]
      rw [e1, List.foldl_append, fold_chunk _ _ _ _ hc, List.foldl_cons, lns_join hy1]
      have e2 : pst (out ++ [(x, [] ++ y)], true) [64] = (out ++ [(x, y)], false) := by
        rw [pst, if_pos rfl, if_pos rfl]; rfl
      rw [e2]
      have := ih (out ++ [(x, y)]) (names ++ [x]) (by rw [lastE_snoc]; exact hr)
      rw [this]; simp
end Go.Proofs.Ytecebamhenlnoaa
