/- Lines of a text; lines that open a chunk; texts that end with a line: what the functions of the program and of the reference return. -/
import Derived.Test.YtecebamhenlnoaaRa
namespace Go.Proofs.Ytecebamhenlnoaa
open Go.RowKit
/-- The lines of a text, without their line feeds; what follows the last line feed is left out. -/
def lnsA : Str → Str → List Str
  | _, [] => []
  | cur, c :: t => if c.toNat = 10 then cur :: lnsA [] t else lnsA (cur ++ [c]) t
def lns (s : Str) : List Str := lnsA [] s
theorem lnsA_drop {s : Str} {k : Nat} (h : k < s.length) (cur : Str) : lnsA cur (s.drop k) = if s[k].toNat = 10 then cur :: lnsA [] (s.drop (k + 1)) else lnsA (cur ++ [s[k]]) (s.drop (k + 1)) := by
  rw [List.drop_eq_getElem_cons h, lnsA]
theorem lnsA_len (cur s : Str) : (lnsA cur s).length ≤ s.length := by
  induction s generalizing cur with
  | nil => simp [lnsA]
  | cons c t ih =>
    rw [lnsA]; split
    · have := ih []; simp; omega
    · have := ih (cur ++ [c]); simp; omega
theorem lns_len (s : Str) : (lns s).length ≤ s.length := lnsA_len [] s
theorem lnsA_sizes (cur s : Str) : ∀ l ∈ lnsA cur s, l.length ≤ cur.length + s.length := by
  induction s generalizing cur with
  | nil => simp [lnsA]
  | cons c t ih =>
    intro l hl
    rw [lnsA] at hl; split at hl
    · rcases List.mem_cons.1 hl with rfl | hl
      · omega
      · have := ih [] l hl; simp at this ⊢; omega
    · have := ih _ l hl; simp at this ⊢; omega
theorem lns_sizes (s : Str) : ∀ l ∈ lns s, l.length ≤ s.length := by
  intro l hl; have := lnsA_sizes [] s l hl; simpa using this
theorem strInfo : (Try.prog.info? 9).map (fun i => (i.zero, i.size, i.bytes)) = some (some (sv []), 1, 16) := by kernel_rfl
theorem tyStr : ElemTy Try.prog 53 9 1 16 := by
  obtain ⟨i0, hi0, hz0, hz1, hz2⟩ := info_parts strInfo
  exact ⟨i0, _, Try.underlying53, hi0, hz0, hz1, hz2, rfl, by omega⟩
abbrev OwnStr (w : World) (base : Nat) (A : Option Addr) (n c : Nat) (l : List Str) : Prop := Own encS 1 9 w base A n c l
theorem newsS (w : World) (x : Str) (t : TypeId) (b : Nat) (hb : w.heap.size = b) : ∀ j u, (encS x)[j]? = some u → (w.alloc (.cells #[sv x] t)).cell? ⟨b, 0 + j, none⟩ = some u := by
  intro j u hu
  subst hb
  rw [Nat.zero_add, (Blk.new_ w t _).cell]
  exact hu
/-- The text from place f up to place k. -/
def cut (s : Str) (f k : Nat) : Str := (s.drop f).take (k - f)
theorem cut_snoc {s : Str} {f k : Nat} (hf : f ≤ k) (hk : k < s.length) : cut s f k ++ [s[k]] = cut s f (k + 1) := by
  unfold cut
  rw [show k + 1 - f = (k - f) + 1 from by omega, List.take_succ_eq_append_getElem (by simp; omega)]
  simp [show f + (k - f) = k from by omega]
theorem cut_same (s : Str) (k : Nat) : cut s k k = [] := by simp [cut]
set_option maxHeartbeats 1000000 in
theorem linesOf_any (s : Str) (w : World) (hs : (s.length : Int) ≤ 4194304) :
    Calls Try.prog 65 #[sv s] w fun e w' => ∃ A n c, e = .returned (.slice A n c) ∧ OwnStr w' w.heap.size A n c (lns s) ∧ Below w.heap.size w w' := by
  go_enter Try.func65, Try.ntmps65
  go_wp2
  go_loopw [3, 4, 5] (fun v f i wr => ∃ (A : Option Addr) (n c f' k : Nat) (l : List Str), k ≤ s.length ∧ f' ≤ k ∧ n ≤ k ∧ i = .int .i64 k ∧ f = .int .i64 f' ∧ v = .slice A n c ∧ OwnStr wr w.heap.size A n c l ∧ lns s = l ++ lnsA (cut s f' k) (s.drop k) ∧ Below w.heap.size w wr) (fun _ _ i _ => s.length - (intOf i).toNat)
  case atStart => exact ⟨none, 0, 0, 0, 0, [], by omega, by omega, by omega, rfl, rfl, rfl, Own.nil_, rfl, Below.refl _ _⟩
  case round =>
    obtain ⟨A, n, c, f, k, l, hk, hfk, hnk, rfl, rfl, rfl, ho, hl, hb⟩ := hrel
    have HL := Lib.hid hl
    clear hl
    by_cases hlt : k < s.length
    · have HD := Lib.hid (lnsA_drop hlt (cut s f k))
      have hfs : f ≤ s.length := by omega
      by_cases h10 : s[k].toNat = 10
      · have h10' : ((s[k].toNat : Int) == 10) = true := by simp [h10]
        have H10 := Lib.hid h10
        clear h10
        have hsz := hb.size
        go_wp2_with (first | (at_builtin; refine wpList_app1 encS tyStr encS_len encS_one rfl _ _ rfl w.heap.size _ n c _ rfl (ho.alloc _) (cut s f k) _ 0 1 rfl (newsS _ _ _ _ ?_) ?_ ?_ ?_ ?_; (rfl); (omega); (unfold maxLen; omega); (simp; omega); intro g1 c1 w1 ho1 hg1 hb1 hat1))
        go_roundw
        case rel => exact ⟨_, n + 1, c1, k + 1, k + 1, _, by omega, by omega, by omega, by go_num, by go_num, rfl, ho1, by rw [HL.out, HD.out, if_pos H10.out, cut_same, List.append_assoc]; rfl, (hb.alloc hb.size _).trans hb1⟩
        case measure => simp [intOf]; omega
      · have h10' : ((s[k].toNat : Int) == 10) = false := by simp; omega
        go_wp2
        go_roundw
        case rel => exact ⟨A, n, c, f, k + 1, l, by omega, by omega, by omega, by go_num, rfl, rfl, ho, by rw [HL.out, HD.out, if_neg h10, cut_snoc hfk hlt], hb⟩
        case measure => simp [intOf]; omega
    · obtain rfl : k = s.length := by omega
      go_wp2
      go_ret
      exact ⟨A, n, c, rfl, by rw [HL.out, List.drop_length, lnsA, List.append_nil]; exact ho, hb⟩
set_option maxHeartbeats 1000000 in
theorem l37Lines_any (s : Str) (w : World) (hs : (s.length : Int) ≤ 4194304) :
    Calls Try.prog 70 #[sv s] w fun e w' => ∃ A n c, e = .returned (.slice A n c) ∧ OwnStr w' w.heap.size A n c ((lns s).map (· ++ [10])) ∧ Below w.heap.size w w' := by
  go_enter Try.func70, Try.ntmps70
  go_wp2
  go_loopw [3, 4, 5] (fun v f i wr => ∃ (A : Option Addr) (n c f' k : Nat) (l : List Str), k ≤ s.length ∧ f' ≤ k ∧ n ≤ k ∧ i = .int .i64 k ∧ f = .int .i64 f' ∧ v = .slice A n c ∧ OwnStr wr w.heap.size A n c l ∧ (lns s).map (· ++ [10]) = l ++ (lnsA (cut s f' k) (s.drop k)).map (· ++ [10]) ∧ Below w.heap.size w wr) (fun _ _ i _ => s.length - (intOf i).toNat)
  case atStart => exact ⟨_, 0, 0, 0, 0, [], by omega, by omega, by omega, rfl, rfl, rfl, Own.new_ (n := 0) encS_len w [] _ rfl rfl (by unfold maxLen; omega) (Nat.le_refl _) rfl, rfl, (Below.refl _ _).alloc (Nat.le_refl _) _⟩
  case round =>
    obtain ⟨A, n, c, f, k, l, hk, hfk, hnk, rfl, rfl, rfl, ho, hl, hb⟩ := hrel
    have HL := Lib.hid hl
    clear hl
    by_cases hlt : k < s.length
    · have HD := Lib.hid (lnsA_drop hlt (cut s f k))
      have hfs : f ≤ s.length := by omega
      by_cases h10 : s[k].toNat = 10
      · have h10' : ((s[k].toNat : Int) == 10) = true := by simp [h10]
        have H10 := Lib.hid h10
        have HC := Lib.hid (show s[k] = 10 from UInt8.toNat_inj.1 h10)
        clear h10
        have hsz := hb.size
        go_wp2_with (first | (at_builtin; refine wpList_app1 encS tyStr encS_len encS_one rfl _ _ rfl w.heap.size _ n c _ rfl (ho.alloc _) (cut s f (k + 1)) _ 0 1 rfl (newsS _ _ _ _ ?_) ?_ ?_ ?_ ?_; (rfl); (omega); (unfold maxLen; omega); (simp; omega); intro g1 c1 w1 ho1 hg1 hb1 hat1))
        go_roundw
        case rel => exact ⟨_, n + 1, c1, k + 1, k + 1, _, by omega, by omega, by omega, by go_num, by go_num, rfl, ho1, by rw [HL.out, HD.out, if_pos H10.out, cut_same, List.append_assoc, List.map_cons, ← cut_snoc hfk hlt, HC.out]; rfl, (hb.alloc hb.size _).trans hb1⟩
        case measure => simp [intOf]; omega
      · have h10' : ((s[k].toNat : Int) == 10) = false := by simp; omega
        go_wp2
        go_roundw
        case rel => exact ⟨A, n, c, f, k + 1, l, by omega, by omega, by omega, by go_num, rfl, rfl, ho, by rw [HL.out, HD.out, if_neg h10, cut_snoc hfk hlt], hb⟩
        case measure => simp [intOf]; omega
    · obtain rfl : k = s.length := by omega
      go_wp2
      go_ret
      exact ⟨A, n, c, rfl, by rw [HL.out, List.drop_length, lnsA, List.map_nil, List.append_nil]; exact ho, hb⟩
/-- A line that opens a chunk: its name, and whether it does. -/
def mid (s : Str) : Str := (s.drop 2).take (s.length - 3 - 2)
def opn (s : Str) : Str × Bool := if 6 ≤ s.length ∧ s.take 2 = [60, 60] ∧ s.drop (s.length - 3) = [62, 62, 61] then (mid s, isNm (mid s)) else ([], false)
set_option maxHeartbeats 1000000 in
theorem opened_any (s : Str) (w : World) (hs : (s.length : Int) ≤ 4194304) :
    Calls Try.prog 66 #[sv s] w fun e w' => e = .returned (.tuple #[sv (opn s).1, .bool (opn s).2]) ∧ w = w' := by
  by_cases h6 : 6 ≤ s.length
  · by_cases ha : s.take 2 = [60, 60]
    · by_cases hb : s.drop (s.length - 3) = [62, 62, 61]
      · have hres : opn s = (mid s, isNm (mid s)) := by rw [opn, if_pos ⟨h6, ha, hb⟩]
        have HR := Lib.hid hres
        clear hres
        have h3 : s.length - (s.length - 3) = 3 := by omega
        go_enter Try.func66, Try.ntmps66
        go_wp2_with fail
        refine (implIsName_any (mid s) _ (by unfold mid maxLen; rw [List.length_take]; omega)).mono ?_
        rintro e w1 ⟨rfl, rfl⟩
        go_wp2_with fail
        go_ret2
        exact ⟨by rw [HR.out]; rfl, rfl⟩
      · have hres : opn s = ([], false) := by rw [opn, if_neg (fun h => hb h.2.2)]
        rw [hres]
        have h3 : s.length - (s.length - 3) = 3 := by omega
        have hb' : (List.take 3 (s.drop (s.length - 3)) == [62, 62, 61]) = false := by rw [List.take_of_length_le (by simp; omega)]; simpa using hb
        clear hres
        go_enter Try.func66, Try.ntmps66
        go_wp2_with fail
        go_ret2
        exact ⟨rfl, rfl⟩
    · have hres : opn s = ([], false) := by rw [opn, if_neg (fun h => ha h.2.1)]
      rw [hres]
      have ha' : (s.take 2 == [60, 60]) = false := by simpa using ha
      clear hres
      go_enter Try.func66, Try.ntmps66
      go_wp2_with fail
      go_ret2
      exact ⟨rfl, rfl⟩
  · have hres : opn s = ([], false) := by rw [opn, if_neg (by omega)]
    rw [hres]
    clear hres
    go_enter Try.func66, Try.ntmps66
    go_wp2_with fail
    go_ret2
    exact ⟨rfl, rfl⟩
/-- The name that a line (with its line feed) opens, or nothing. -/
def opnS (s : Str) : Str := if (opn s).2 then (opn s).1 else []
theorem isNm_ne {s : Str} (h : isNm s = true) : s ≠ [] := by
  rintro rfl; simp [isNm] at h
theorem opnS_ne (s : Str) : (!(opnS s == [])) = (opn s).2 := by
  unfold opnS
  cases h : (opn s).2 with
  | false => rfl
  | true =>
    unfold opn at h ⊢
    split at h
    · have := isNm_ne h
      rename_i hc
      rw [if_pos hc]
      simp [this]
    · cases h
set_option maxHeartbeats 1000000 in
theorem l37Open_any (s : Str) (w : World) (hs : (s.length : Int) ≤ 4194304) :
    Calls Try.prog 71 #[sv (s ++ [10])] w fun e w' => e = .returned (sv (opnS s)) ∧ w = w' := by
  have hlen : (s ++ [10] : Str).length = s.length + 1 := by simp
  by_cases h6 : 6 ≤ s.length
  · have t2 : (s ++ [10] : Str).take 2 = s.take 2 := List.take_append_of_le_length (by omega)
    have t3 : (s ++ [10] : Str).drop (s.length + 1 - 4) = s.drop (s.length - 3) ++ [10] := by rw [show s.length + 1 - 4 = s.length - 3 from by omega, List.drop_append_of_le_length (by omega)]
    have t4 : ((s ++ [10] : Str).drop 2).take (s.length + 1 - 4 - 2) = mid s := by
      rw [List.drop_append_of_le_length (by omega), List.take_append_of_le_length (by simp; omega), mid]
      congr 1
    generalize hs1 : (s ++ [10] : Str) = s1 at *
    have HS := Lib.hid hs1
    clear hs1
    by_cases ha : s.take 2 = [60, 60]
    · by_cases hb : s.drop (s.length - 3) = [62, 62, 61]
      · have hres : opn s = (mid s, isNm (mid s)) := by rw [opn, if_pos ⟨h6, ha, hb⟩]
        have HR := Lib.hid hres
        clear hres
        rw [hb] at t3
        rw [ha] at t2
        have h3 : s1.length - (s1.length - 4) = 4 := by omega
        rw [← hlen] at t3 t4
        have l1 : 7 ≤ (s1.length : Int) := by omega
        have l2 : (s1.length : Int) ≤ 4194305 := by omega
        have HT4 := Lib.hid t4
        have HL := Lib.hid hlen
        clear t4 hlen ha hb
        go_enter Try.func71, Try.ntmps71
        go_wp2_with fail
        rw [HT4.out]
        refine (specIsName_any (mid s) _ (by unfold mid maxLen; rw [List.length_take]; omega)).mono ?_
        rintro e w1 ⟨rfl, rfl⟩
        cases hn : isNm (mid s) with
        | true =>
          go_wp2_with fail
          go_ret
          exact ⟨ret_str (by rw [HT4.out, opnS, HR.out]; simp only [hn]; rfl), rfl⟩
        | false =>
          go_wp2_with fail
          go_ret
          exact ⟨ret_str (by rw [opnS, HR.out]; simp only [hn]; rfl), rfl⟩
      · have hres : opnS s = [] := by rw [opnS, show opn s = ([], false) from by rw [opn, if_neg (fun h => hb h.2.2)]]; rfl
        have HR := Lib.hid hres
        have h3 : s1.length - (s1.length - 4) = 4 := by omega
        rw [ha] at t2
        rw [← hlen] at t3 t4
        have t3' : (List.take 4 (s1.drop (s1.length - 4)) == [62, 62, 61, 10]) = false := by
          rw [List.take_of_length_le (by simp; omega), t3, beq_eq_false_iff_ne]
          intro h
          exact hb (List.append_inj_left' (s₂ := [62, 62, 61]) (t₁ := [10]) (t₂ := [10]) h rfl)
        have l1 : 7 ≤ (s1.length : Int) := by omega
        have l2 : (s1.length : Int) ≤ 4194305 := by omega
        clear hres t4 t3 hlen hb ha
        go_enter Try.func71, Try.ntmps71
        go_wp2_with fail
        go_ret
        exact ⟨ret_str (by rw [HR.out]), rfl⟩
    · have hres : opnS s = [] := by rw [opnS, show opn s = ([], false) from by rw [opn, if_neg (fun h => ha h.2.1)]]; rfl
      have HR := Lib.hid hres
      have t2' : (s1.take 2 == [60, 60]) = false := by rw [t2]; simpa using ha
      have t2'' : ¬ s1.take 2 = [60, 60] := by rw [t2]; exact ha
      have l1 : 7 ≤ (s1.length : Int) := by omega
      have l2 : (s1.length : Int) ≤ 4194305 := by omega
      clear hres t4 t3 hlen t2 ha
      go_enter Try.func71, Try.ntmps71
      go_wp2_with fail
      go_ret
      exact ⟨ret_str (by rw [HR.out]), rfl⟩
  · have hres : opnS s = [] := by rw [opnS, show opn s = ([], false) from by rw [opn, if_neg (by omega)]]; rfl
    rw [hres]
    generalize hs1 : (s ++ [10] : Str) = s1 at *
    have l1 : (s1.length : Int) < 7 := by omega
    clear hs1 hlen hres
    go_enter Try.func71, Try.ntmps71
    go_wp2_with fail
    go_ret
    exact ⟨rfl, rfl⟩
end Go.Proofs.Ytecebamhenlnoaa
