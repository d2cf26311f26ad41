/- What the functions on caches and the law's own helpers return, for all arguments: contracts of each function. No conditions beyond the stated sizes. -/
import Derived.Test.YtecebamhenlnoaaBase
namespace Go.Proofs.Ytecebamhenlnoaa
open Go.RowKit
def szP (e : Pair) (n : Int) : Int := if n < e.1.length + e.2.length then -1 else n - e.1.length - e.2.length
set_option maxHeartbeats 400000 in
theorem szEntry_any (k o : Str) (n : Int) (w : World) (hk : k.length ≤ maxLen) (ho : o.length ≤ maxLen) (h0 : 0 ≤ n) (h1 : n ≤ 1048576) :
    Calls Try.prog 50 #[.agg #[sv k, sv o], .int .i64 n] w fun e w' => e = .returned (.int .i64 (szP (k, o) n)) ∧ Below w.heap.size w w' := by
  unfold maxLen at hk ho
  go_enter Try.func50, Try.ntmps50
  go_wp2
  all_goals go_ret
  all_goals refine ⟨ret_int ?_, (Below.refl _ _).alloc (Nat.le_refl _) _⟩
  · simp only [szP]; rw [if_pos (by omega)]
  · simp only [szP]; rw [if_pos (by omega)]
  · simp only [szP]; rw [if_neg (by omega)]
def szL : List Pair → Int → Int
  | [], n => n
  | e :: t, n => if szP e n < 0 then -1 else szL t (szP e n)
theorem szP_le (e : Pair) (n : Int) : szP e n ≤ n ∨ szP e n = -1 := by unfold szP; split <;> omega
theorem szL_drop (l : List Pair) (k : Nat) (e : Pair) (r : Int) (h : l[k]? = some e) : szL (l.drop k) r = if szP e r < 0 then -1 else szL (l.drop (k + 1)) (szP e r) := by
  obtain ⟨hk, he⟩ := List.getElem?_eq_some_iff.1 h
  rw [List.drop_eq_getElem_cons hk, he, szL]
def szS (l : List Pair) (n : Int) : Int := if n < l.length then -1 else szL l (n - l.length)
set_option maxHeartbeats 400000 in
theorem szEntryS_any (A : Option Addr) (len cap : Nat) (l : List Pair) (n : Int) (w : World) (hr : Reads enc2 2 w w.heap.size A len l) (hs : ∀ e ∈ l, e.1.length ≤ maxLen ∧ e.2.length ≤ maxLen) (hlen : len ≤ maxLen) (h0 : 0 ≤ n) (h1 : n ≤ 1048576) :
    Calls Try.prog 13 #[.slice A len cap, .int .i64 n] w fun e w' => e = .returned (.int .i64 (szS l n)) ∧ Below w.heap.size w w' := by
  unfold maxLen at hlen
  by_cases hn : n < len
  · go_enter Try.func13, Try.ntmps13
    go_wp2
    go_ret
    exact ⟨ret_int (by rw [szS, hr.len, if_pos hn]), Below.refl _ _⟩
  · have hd : decide (n - (len : Int) < 0) = false := by simp; omega
    go_enter Try.func13, Try.ntmps13
    go_wp2
    go_loopw [1, 5] (fun m i wr => ∃ (k : Nat) (r : Int), k ≤ len ∧ i = .int .i64 k ∧ m = .int .i64 r ∧ 0 ≤ r ∧ r ≤ 1048576 ∧ szS l n = szL (l.drop k) r ∧ Below w.heap.size w wr) (fun _ i _ => len - (intOf i).toNat)
    case atStart => exact ⟨0, n - len, by omega, rfl, rfl, by omega, by omega, by rw [szS, hr.len, if_neg (by omega)]; rfl, Below.refl _ _⟩
    case round =>
      obtain ⟨k, r, hk, rfl, rfl, hr0, hr1, hsz, hb⟩ := hrel
      have HS := Lib.hid hsz
      clear hsz
      by_cases hlt : k < len
      · obtain ⟨b, off, x, y, rfl, hbl, hx, hc0, hc1⟩ := (hr.below hb).at2 hlt
        have hm := hs _ (List.mem_of_getElem? hx)
        have hp := szP_le (x, y) r
        have HD := Lib.hid (szL_drop l k _ r hx)
        clear hx
        go_wp2_with (go_at_call 50; refine (szEntry_any _ _ _ _ hm.1 hm.2 hr0 hr1).mono ?_; rintro e w1 ⟨rfl, hb1⟩)
        · go_ret
          have hq : szP (x, y) r < 0 := by assumption
          exact ⟨ret_int (by rw [HS.out, HD.out, if_pos hq]), bth hb hb1⟩
        · have hq : 0 ≤ szP (x, y) r := by assumption
          go_roundw
          case rel => exact ⟨k + 1, _, by omega, by go_num, rfl, hq, by omega, by rw [HS.out, HD.out, if_neg (by omega)], bth hb hb1⟩
          case measure => simp [intOf]; omega
      · obtain rfl : len = k := by omega
        go_wp2
        go_ret
        exact ⟨ret_int (by rw [HS.out, List.drop_of_length_le (by rw [hr.len]; omega)]; rfl), hb⟩

/-- The place of the first entry with a key, counted from i; -1 where there is none. -/
def fk : List Pair → Str → Nat → Int
  | [], _, _ => -1
  | e :: t, key, i => if e.1 = key then i else fk t key (i + 1)
theorem fk_drop (l : List Pair) (k : Nat) (e : Pair) (key : Str) (h : l[k]? = some e) : fk (l.drop k) key k = if e.1 = key then (k : Int) else fk (l.drop (k + 1)) key (k + 1) := by
  obtain ⟨hk, he⟩ := List.getElem?_eq_some_iff.1 h
  rw [List.drop_eq_getElem_cons hk, he, fk]
set_option maxHeartbeats 400000 in
theorem l39Find_any (A : Option Addr) (len cap : Nat) (l : List Pair) (key : Str) (w : World) (hr : Reads enc2 2 w w.heap.size A len l) (hlen : len ≤ 1048576) :
    Calls Try.prog 51 #[.slice A len cap, sv key] w fun e w' => e = .returned (.int .i64 (fk l key 0)) ∧ w = w' := by
  go_enter Try.func51, Try.ntmps51
  go_wp2
  go_loop [5] (fun i => ∃ (k : Nat), k ≤ len ∧ i = .int .i64 k ∧ fk l key 0 = fk (l.drop k) key k) (fun i => len - (intOf i).toNat)
  case atStart => exact ⟨0, by omega, rfl, rfl⟩
  case round =>
    obtain ⟨k, hk, rfl, hf⟩ := hrel
    have HF := Lib.hid hf
    clear hf
    by_cases hlt : k < len
    · obtain ⟨b, off, x, y, rfl, hbl, hx, hc0, hc1⟩ := hr.at2 hlt
      have HD := Lib.hid (fk_drop l k _ key hx)
      clear hx
      go_wp2
      · go_ret
        have hq : x = key := of_beq (by assumption)
        exact ⟨ret_int (by rw [HF.out, HD.out, if_pos hq]), rfl⟩
      · have hq : ¬ x = key := of_nbeq (by assumption)
        go_round
        case rel => exact ⟨k + 1, by omega, by go_num, by rw [HF.out, HD.out, if_neg hq]⟩
        case measure => simp [intOf]; omega
    · obtain rfl : len = k := by omega
      go_wp2
      go_ret
      exact ⟨ret_int (by rw [HF.out, List.drop_of_length_le (by rw [hr.len]; omega)]; rfl), rfl⟩
set_option maxHeartbeats 400000 in
theorem toEntry_any (k o : Str) (w : World) :
    Calls Try.prog 52 #[.agg #[sv k, sv o]] w fun e w' => e = .returned (.agg #[sv k, sv o]) ∧ Below w.heap.size w w' := by
  go_enter Try.func52, Try.ntmps52
  go_wp2
  refine bodyPost_ret (v := .agg #[sv k, sv o]) (by simp [results, Try.results52, go_sem]) rfl ⟨rfl, ?_⟩
  exact (((Below.refl _ _).alloc (Nat.le_refl _) _).alloc (by simp) _).alloc (by simp; omega) _
set_option maxHeartbeats 400000 in
theorem eqEntry_any (a b c d : Str) (w : World) :
    Calls Try.prog 54 #[.agg #[sv a, sv b], .agg #[sv c, sv d]] w fun e w' => e = .returned (.bool ((a, b) == (c, d))) ∧ Below w.heap.size w w' := by
  go_enter Try.func54, Try.ntmps54
  go_wp2
  all_goals go_ret
  all_goals refine ⟨ret_bool ?_, ((Below.refl _ _).alloc (Nat.le_refl _) _).alloc (by simp) _⟩
  · have h := of_bne (a := a) (b := c) (by assumption)
    simp [h]
  · have h := of_bne (a := b) (b := d) (by assumption)
    simp [h]
  · have h := of_nbne (a := a) (b := c) (by assumption)
    have h' := of_nbne (a := b) (b := d) (by assumption)
    simp [h, h']
set_option maxHeartbeats 400000 in
theorem eqEntryS_any (A A' : Option Addr) (len len' cap cap' : Nat) (l l' : List Pair) (w : World) (hr : Reads enc2 2 w w.heap.size A len l) (hr' : Reads enc2 2 w w.heap.size A' len' l') (hlen : len ≤ maxLen) (hlen' : len' ≤ maxLen) :
    Calls Try.prog 17 #[.slice A len cap, .slice A' len' cap'] w fun e w' => e = .returned (.bool (l == l')) ∧ Below w.heap.size w w' := by
  unfold maxLen at hlen hlen'
  by_cases hn : len = len'
  · subst hn
    have hd : ((len : Int) != (len : Int)) = false := by simp
    go_enter Try.func17, Try.ntmps17
    go_wp2
    go_loopw [5] (fun i wr => ∃ (k : Nat), k ≤ len ∧ i = .int .i64 k ∧ l.take k = l'.take k ∧ Below w.heap.size w wr) (fun i _ => len - (intOf i).toNat)
    case atStart => exact ⟨0, by omega, rfl, by simp, Below.refl _ _⟩
    case round =>
      obtain ⟨k, hk, rfl, hf, hb⟩ := hrel
      have HF := Lib.hid hf
      clear hf
      by_cases hlt : k < len
      · obtain ⟨b, off, x, y, rfl, hbl, hx, hc0, hc1⟩ := (hr.below hb).at2 hlt
        obtain ⟨b', off', x', y', rfl, hbl', hx', hc0', hc1'⟩ := (hr'.below hb).at2 hlt
        have HX := Lib.hid hx
        have HX' := Lib.hid hx'
        clear hx hx'
        go_wp2
        have hbw : b < wr.heap.size := by have := hb.size; omega
        have hbw' : b' < wr.heap.size := by have := hb.size; omega
        have i1 : (0 : Int) ≤ (k : Int) := by omega
        have i2 : (k : Int) < (len : Int) := by omega
        go_region_held3 (fun w' => (w'.cell? ⟨b, off + k * 2, none⟩ = some (sv x) ∧ w'.cell? ⟨b, off + k * 2 + 1, none⟩ = some (sv y)) ∧ (w'.cell? ⟨b', off' + k * 2, none⟩ = some (sv x') ∧ w'.cell? ⟨b', off' + k * 2 + 1, none⟩ = some (sv y'))) (first | exact ⟨⟨hc0, hc1⟩, ⟨hc0', hc1'⟩⟩ | exact ⟨⟨(hb1.cell hbw).trans hc0, (hb1.cell hbw).trans hc1⟩, ⟨(hb1.cell hbw').trans hc0', (hb1.cell hbw').trans hc1'⟩⟩)
          (first | (go_at_call 54; refine (eqEntry_any _ _ _ _ _).mono ?_; rintro e w1 ⟨rfl, hb1⟩))
        go_wp2
        · go_ret
          have hq := of_bne (a := (x, y)) (b := (x', y')) (by assumption)
          exact ⟨ret_bool (ne_at HX.out HX'.out hq).symm, bth hb.drew hb1⟩
        · have hq := of_nbne (a := (x, y)) (b := (x', y')) (by assumption)
          go_roundw
          case rel => exact ⟨k + 1, by omega, by go_num, by rw [take_snoc' HX.out, take_snoc' HX'.out, HF.out, hq], bth hb.drew hb1⟩
          case measure => simp [intOf]; omega
      · obtain rfl : len = k := by omega
        go_wp2
        go_ret
        exact ⟨ret_bool (eq_of_takes HF.out hr.len hr'.len).symm, hb⟩
  · have hd : ((len : Int) != (len' : Int)) = true := by simp; omega
    go_enter Try.func17, Try.ntmps17
    go_wp2
    go_ret
    exact ⟨ret_bool (ne_of_len (by rw [hr.len, hr'.len]; exact hn)).symm, Below.refl _ _⟩
theorem entryInfo : (Try.prog.info? 37).map (fun i => (i.zero, i.size, i.bytes)) = some (some (.agg #[sv [], sv []]), 2, 32) := by kernel_rfl
set_option maxHeartbeats 400000 in
theorem toEntryS_any (A : Option Addr) (len cap : Nat) (l : List Pair) (w : World) (hr : Reads enc2 2 w w.heap.size A len l) (hlen : len ≤ 1048576) :
    Calls Try.prog 15 #[.slice A len cap] w fun e w' => ∃ g, e = .returned (.slice (some ⟨g, 0, none⟩) len len) ∧ w.heap.size ≤ g ∧ Blk w' g 37 (l.flatMap enc2) ∧ Below w.heap.size w w' := by
  obtain ⟨i0, hi0, hz0, hz1, hz2⟩ := info_parts entryInfo
  have hmk := fun W => run_make_rowN (P := Try.prog) 25 37 i0 _ Try.underlying25 hi0 hz0 .i64 .i64 len len (Nat.le_refl _) (by rw [hz2]; omega) (by omega) W
  rw [hz1] at hmk
  go_enter Try.func15, Try.ntmps15
  go_wp2
  clear hmk
  go_loopw [4] (fun i wr => ∃ (k : Nat), k ≤ len ∧ i = .int .i64 k ∧ Fill enc2 2 wr w.heap.size 37 len k l ∧ Below w.heap.size w wr) (fun i _ => len - (intOf i).toNat)
  case atStart => exact ⟨0, by omega, rfl, Fill.start w _ _ len l (size_madeCells _ _), (Below.refl _ _).alloc (Nat.le_refl _) _⟩
  case round =>
    obtain ⟨k, hk, rfl, hf, hb⟩ := hrel
    have hgl := hf.lt
    by_cases hlt : k < len
    · obtain ⟨b, off, x, y, rfl, hbl, hx, hc0, hc1⟩ := (hr.below hb).at2 hlt
      have HX := Lib.hid hx
      clear hx
      go_wp2_with (go_at_call 52; refine (toEntry_any _ _ _).mono ?_; rintro e w1 ⟨rfl, hb1⟩; have hf1 := hf.below hb1 hgl; obtain ⟨u0, hu0⟩ := hf1.cell (k * 2) (by omega); obtain ⟨u1, hu1⟩ := hf1.cell (k * 2 + 1) (by omega); have hz0 := hf1.frozen (k * 2); have hz1 := hf1.frozen (k * 2 + 1))
      go_roundw
      case rel => exact ⟨k + 1, by omega, by go_num, hf1.put2 hlt HX.out, ((bth hb hb1).setCell (Nat.le_refl _) _).setCell (Nat.le_refl _) _⟩
      case measure => simp [intOf]; omega
    · obtain rfl : len = k := by omega
      go_wp2
      go_ret
      exact ⟨_, rfl, Nat.le_refl _, hf.done hr.len, hb⟩

set_option maxHeartbeats 400000 in
theorem entryIndex_any (A : Option Addr) (len cap : Nat) (l : List Pair) (key : Str) (w : World) (hr : Reads enc2 2 w w.heap.size A len l) (hlen : len ≤ 1048576) :
    Calls Try.prog 53 #[.slice A len cap, sv key] w fun e w' => e = .returned (.int .i64 (fk l key 0)) ∧ Below w.heap.size w w' := by
  go_enter Try.func53, Try.ntmps53
  go_wp2
  go_loopw [9] (fun i wr => ∃ (k : Nat), k ≤ len ∧ i = .int .i64 k ∧ fk l key 0 = fk (l.drop k) key k ∧ Below w.heap.size w wr) (fun i _ => len - (intOf i).toNat)
  case atStart => exact ⟨0, by omega, rfl, rfl, Below.refl _ _⟩
  case round =>
    obtain ⟨k, hk, rfl, hf, hb⟩ := hrel
    have HF := Lib.hid hf
    clear hf
    by_cases hlt : k < len
    · obtain ⟨b, off, x, y, rfl, hbl, hx, hc0, hc1⟩ := (hr.below hb).at2 hlt
      have HD := Lib.hid (fk_drop l k _ key hx)
      clear hx
      go_wp2
      · go_ret
        have hq : x = key := of_beq (by assumption)
        exact ⟨ret_int (by rw [HF.out, HD.out, if_pos hq]), hb.alloc hb.size _⟩
      · have hq : ¬ x = key := of_nbeq (by assumption)
        go_roundw
        case rel => exact ⟨k + 1, by omega, by go_num, by rw [HF.out, HD.out, if_neg hq], hb.alloc hb.size _⟩
        case measure => simp [intOf]; omega
    · obtain rfl : len = k := by omega
      go_wp2
      go_ret
      exact ⟨ret_int (by rw [HF.out, List.drop_of_length_le (by rw [hr.len]; omega)]; rfl), hb⟩

/-- Each key stands first where it stands, up to k. -/
def okTo (l : List Pair) (k : Nat) : Prop := ∀ i e, i < k → l[i]? = some e → fk l e.1 0 = i
/-- The cache's own rule: each key once; not too many. -/
def isC (l : List Pair) : Bool := decide (l.length ≤ 8) && (l.map (·.1)).Pairwise (· ≠ ·)
theorem fk_ge (l : List Pair) (key : Str) (i : Nat) : fk l key i = -1 ∨ (i : Int) ≤ fk l key i := by
  induction l generalizing i with
  | nil => left; rfl
  | cons a t ih =>
    rw [fk]; split
    · right; omega
    · rcases ih (i + 1) with h | h
      · left; exact h
      · right; omega
theorem fk_at (l : List Pair) (key : Str) (k : Nat) (e : Pair) (i : Nat) (h : l[k]? = some e) (he : e.1 = key) : (i : Int) ≤ fk l key i ∧ fk l key i ≤ i + k := by
  induction l generalizing i k with
  | nil => simp at h
  | cons a t ih =>
    rw [fk]
    cases k with
    | zero =>
      simp at h; subst h; rw [if_pos he]; omega
    | succ k =>
      simp at h
      split
      · omega
      · have := ih k (i + 1) h; omega
theorem fk_hit (l : List Pair) (key : Str) (i k : Nat) (h : fk l key i = ((i + k : Nat) : Int)) : ∃ e, l[k]? = some e ∧ e.1 = key := by
  induction l generalizing i k with
  | nil => rw [fk] at h; omega
  | cons a t ih =>
    rw [fk] at h
    split at h
    · have hk : k = 0 := by omega
      subst hk; exact ⟨a, by simp, by assumption⟩
    · cases k with
      | zero => have := fk_ge t key (i + 1); omega
      | succ k =>
        obtain ⟨e, h1, h2⟩ := ih (i + 1) k (by rw [h]; omega)
        exact ⟨e, by simpa using h1, h2⟩
theorem okTo_all (l : List Pair) (h : okTo l l.length) : (l.map (·.1)).Pairwise (· ≠ ·) := by
  rw [List.pairwise_iff_getElem]
  intro i j hi hj hij he
  simp at hi hj he
  have hx : l[i]? = some l[i] := List.getElem?_eq_getElem hi
  have hy : l[j]? = some l[j] := List.getElem?_eq_getElem hj
  have h1 := h i _ hi hx
  have h2 := h j _ hj hy
  rw [he] at h1; omega
theorem not_ok (l : List Pair) (k : Nat) (e : Pair) (hx : l[k]? = some e) (hf : ¬ fk l e.1 0 = k) : ¬ (l.map (·.1)).Pairwise (· ≠ ·) := by
  intro hp
  have h1 := fk_at l e.1 k e 0 hx rfl
  obtain ⟨m, hm⟩ : ∃ m : Nat, fk l e.1 0 = m := ⟨(fk l e.1 0).toNat, by omega⟩
  obtain ⟨e', h2, h3⟩ := fk_hit l e.1 0 m (by rw [hm]; omega)
  have hk := (List.getElem?_eq_some_iff.1 hx)
  have hm' := (List.getElem?_eq_some_iff.1 h2)
  rw [List.pairwise_iff_getElem] at hp
  have := hp m k (by simpa using hm'.1) (by simpa using hk.1) (by omega)
  simp [hk.2, hm'.2, h3] at this
theorem isC_no {l : List Pair} (h : ¬ (l.map (·.1)).Pairwise (· ≠ ·)) : isC l = false := by simp only [isC]; simp [h]
theorem isC_long {l : List Pair} (h : 8 < l.length) : isC l = false := by simp only [isC]; simp; omega
theorem isC_end {l : List Pair} (h : okTo l l.length) : isC l = decide (l.length ≤ 8) := by simp only [isC]; simp [okTo_all l h]
theorem okTo_succ {l : List Pair} {k : Nat} {e : Pair} (h : okTo l k) (hx : l[k]? = some e) (hf : fk l e.1 0 = k) : okTo l (k + 1) := by
  intro i e' hi hx'
  by_cases hk : i = k
  · subst hk; rw [hx] at hx'; injection hx' with hx'; subst hx'; exact hf
  · exact h i e' (by omega) hx'
set_option maxHeartbeats 400000 in
theorem implIsCache_any (A : Option Addr) (len cap : Nat) (l : List Pair) (w : World) (hr : Reads enc2 2 w w.heap.size A len l) (hlen : len ≤ 1048576) :
    Calls Try.prog 16 #[.slice A len cap] w fun e w' => e = .returned (.bool (isC l)) ∧ Below w.heap.size w w' := by
  go_enter Try.func16, Try.ntmps16
  go_wp2
  go_loopw [7] (fun i wr => ∃ (k : Nat), k ≤ len ∧ i = .int .i64 k ∧ okTo l k ∧ Below w.heap.size w wr) (fun i _ => len - (intOf i).toNat)
  case atStart => exact ⟨0, by omega, rfl, fun i e hi => by omega, Below.refl _ _⟩
  case round =>
    obtain ⟨k, hk, rfl, hf, hb⟩ := hrel
    have HF := Lib.hid hf
    clear hf
    by_cases hlt : k < len
    · obtain ⟨b, off, x, y, rfl, hbl, hx, hc0, hc1⟩ := (hr.below hb).at2 hlt
      have HX := Lib.hid hx
      clear hx
      go_wp2_with (go_at_call 53; refine (entryIndex_any _ _ _ l _ _ ?_ hlen).mono ?_; (exact (hr.next (hb.alloc hb.size _))); rintro e w1 ⟨rfl, hb1⟩)
      · go_ret
        have hq : (fk l x 0 != (k : Int)) = true := by assumption
        exact ⟨ret_bool (isC_no (not_ok l k _ HX.out (by simpa using hq))).symm, bth (hb.alloc hb.size _) hb1⟩
      · have hq : (fk l x 0 != (k : Int)) = false := by assumption
        go_roundw
        case rel => exact ⟨k + 1, by omega, by go_num, okTo_succ HF.out HX.out (by simpa using hq), bth (hb.alloc hb.size _) hb1⟩
        case measure => simp [intOf]; omega
    · obtain rfl : len = k := by omega
      go_wp2
      go_ret
      have hl := hr.len
      exact ⟨ret_bool (by rw [isC_end (by rw [hl]; exact HF.out), hl]; simp; omega), hb⟩
set_option maxHeartbeats 400000 in
theorem specIsCache_any (A : Option Addr) (len cap : Nat) (l : List Pair) (w : World) (hr : Reads enc2 2 w w.heap.size A len l) (hlen : len ≤ 1048576) :
    Calls Try.prog 14 #[.slice A len cap] w fun e w' => e = .returned (.bool (isC l)) ∧ w = w' := by
  go_enter Try.func14, Try.ntmps14
  go_wp2
  go_loop [3] (fun i => ∃ (k : Nat), k ≤ len ∧ k ≤ 9 ∧ i = .int .i64 k ∧ okTo l k) (fun i => len - (intOf i).toNat)
  case atStart => exact ⟨0, by omega, by omega, rfl, fun i e hi => by omega⟩
  case round =>
    obtain ⟨k, hk, hk9, rfl, hf⟩ := hrel
    have HF := Lib.hid hf
    clear hf
    by_cases hlt : k < len
    · by_cases h9 : k ≤ 8
      · obtain ⟨b, off, x, y, rfl, hbl, hx, hc0, hc1⟩ := hr.at2 hlt
        have HX := Lib.hid hx
        clear hx
        go_wp2_with (go_at_call 51; refine (l39Find_any _ _ _ l _ _ hr hlen).mono ?_; rintro e w1 ⟨rfl, rfl⟩)
        · go_ret
          have hq : fk l x 0 < (k : Int) := by assumption
          exact ⟨ret_bool (isC_no (not_ok l k _ HX.out (by show ¬ fk l x 0 = k; omega))).symm, rfl⟩
        · have hq : (k : Int) ≤ fk l x 0 := by assumption
          have hq' := fk_at l x k _ 0 HX.out rfl
          go_round
          case rel => exact ⟨k + 1, by omega, by omega, by go_num, okTo_succ HF.out HX.out (by show fk l x 0 = k; omega)⟩
          case measure => simp [intOf]; omega
      · go_wp2
        go_ret
        exact ⟨ret_bool (by rw [isC_long (by rw [hr.len]; omega)]; simp; omega), rfl⟩
    · obtain rfl : len = k := by omega
      go_wp2
      go_ret
      have hl := hr.len
      exact ⟨ret_bool (by rw [isC_end (by rw [hl]; exact HF.out), hl]; simp; omega), rfl⟩
end Go.Proofs.Ytecebamhenlnoaa
