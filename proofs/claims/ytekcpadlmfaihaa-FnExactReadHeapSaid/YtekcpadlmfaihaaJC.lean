/- The struct Item as data; what its cells are; the law's own functions sz, to, eq over it. -/
import Derived.Test.YtekcpadlmfaihaaJB
set_option linter.unusedSimpArgs false
set_option linter.unusedVariables false
namespace Go.Proofs.Ytekcpadlmfaihaa
open Go.RowKit
theorem Item_toD (x : Item) : x.toD = .st [.i .i64 x.num, .i .i64 x.den, .s x.text] := by first | rfl | exact toD_eq x
theorem Item_open {w : World} {B : Nat} {x : Item} {cs : List Value} (h : rep w B x.toD cs) : ∃ (_ : Unit), cs = [.int .i64 x.num, .int .i64 x.den, sv x.text] ∧ (Lit.int .i64 x.num).wf = true ∧ (Lit.int .i64 x.den).wf = true ∧ x.text.length ≤ maxLen := by
  rw [Item_toD, rep] at h
  obtain ⟨css, rfl, h⟩ := h
  rw [repL] at h
  obtain ⟨c0, css, rfl, k0, h⟩ := h
  rw [repL] at h
  obtain ⟨c1, css, rfl, k1, h⟩ := h
  rw [repL] at h
  obtain ⟨c2, css, rfl, k2, h⟩ := h
  rw [repL] at h
  subst h
  rw [rep] at k0
  obtain ⟨rfl, k0⟩ := k0
  rw [rep] at k1
  obtain ⟨rfl, k1⟩ := k1
  rw [rep] at k2
  obtain ⟨rfl, k2⟩ := k2
  exact ⟨(), rfl, k0, k1, k2⟩
theorem Item_shut {w : World} {B : Nat} {x : Item}  (wnum : (Lit.int .i64 x.num).wf = true) (wden : (Lit.int .i64 x.den).wf = true) (wtext : x.text.length ≤ maxLen) : rep w B x.toD [.int .i64 x.num, .int .i64 x.den, sv x.text] := by
  rw [Item_toD, rep]
  exact ⟨[[.int .i64 x.num], [.int .i64 x.den], [sv x.text]], rfl, repL_cons.2 ⟨by rw [rep]; exact ⟨rfl, wnum⟩, repL_cons.2 ⟨by rw [rep]; exact ⟨rfl, wden⟩, repL_cons.2 ⟨by rw [rep]; exact ⟨rfl, wtext⟩, repL_nil⟩⟩⟩⟩
theorem Item_own {w : World} {x : Item}   (wnum : (Lit.int .i64 x.num).wf = true) (wden : (Lit.int .i64 x.den).wf = true) (wtext : x.text.length ≤ maxLen) : own Try.prog w x.toD 101 ([]) [.int .i64 x.num, .int .i64 x.den, sv x.text] := by
  rw [Item_toD, own]
  exact ⟨_, [[.int .i64 x.num], [.int .i64 x.den], [sv x.text]], Try.underlying101, rfl, (ownL_cons (F1 := []) (by rw [own]; exact ⟨rfl, rfl, wnum⟩) (ownL_cons (F1 := []) (by rw [own]; exact ⟨rfl, rfl, wden⟩) (ownL_cons (F1 := []) (by rw [own]; exact ⟨rfl, rfl, wtext⟩) ownL_nil)))⟩
theorem Item_at {w : World} {B : Nat} {l : List Item} {A : Option Addr} {n c k : Nat} (h : rep w B (.sl (l.map Item.toD)) [.slice A n c]) (hk : k < n) :
    ∃ (b off : Nat) (x : Item) , A = some ⟨b, off, none⟩ ∧ b < B ∧ l[k]? = some x ∧ rep w B x.toD [.int .i64 x.num, .int .i64 x.den, sv x.text] ∧ w.cell? ⟨b, off + k * 3, none⟩ = some (.int .i64 x.num) ∧ w.cell? ⟨b, off + k * 3 + 1, none⟩ = some (.int .i64 x.den) ∧ w.cell? ⟨b, off + k * 3 + 2, none⟩ = some (sv x.text) := by
  obtain ⟨b, off, x, cs, e, hb, hx, hr, hc⟩ := sl_at h hk
  obtain ⟨_, rfl, _⟩ := Item_open hr
  exact ⟨b, off, x, e, hb, hx, hr, hc 0 _ rfl, hc 1 _ rfl, hc 2 _ rfl⟩
theorem Item_sz (x : Item) : szD x.toD = x.text.length := by
  rw [Item_toD]; simp only [szD, szDs]; omega
def Item_szP (x : Item) : Prop := ∀ (cs : List Value) (n : Int) (w : World), rep w w.heap.size x.toD cs → 0 ≤ n → n ≤ 1048576 → Calls Try.prog 93 #[.agg cs.toArray, .int .i64 n] w fun e w' => e = .returned (.int .i64 (lft (szD x.toD) n)) ∧ Below w.heap.size w w'
set_option maxHeartbeats 4000000 in
theorem szItem_of (x : Item) : Item_szP x := by
  intro cs n w h h0 h1
  have hsz := Item_sz x
  obtain ⟨_, rfl, wnum, wden, wtext⟩ := Item_open h
  have q0 := (Below.refl w.heap.size w).alloc (Nat.le_refl _) (.cells #[.int .i64 x.num, .int .i64 x.den, sv x.text] 107)
  have HSZ := Lib.hid hsz
  clear hsz
  have utext : x.text.length ≤ 9223372036854775807 := wtext
  go_enter Try.func93, Try.ntmps93
  by_cases g0 : n < (x.text.length : Int)
  · have d0 : decide (n - (x.text.length : Int) < 0) = true := by simp; omega
    go_wp2_with fail
    go_ret
    exact ⟨ret_int (by rw [HSZ.out, lft, if_neg (by omega)]), q0⟩
  have d0 : decide (n - (x.text.length : Int) < 0) = false := by simp; omega
  go_wp2_with fail
  go_ret
  exact ⟨ret_int (by rw [HSZ.out, lft, if_pos (by  omega)] <;> ( omega)), q0⟩
set_option maxHeartbeats 4000000 in
theorem szItemS_of (l : List Item) (ih : ∀ x ∈ l, Item_szP x) (A : Option Addr) (len cap : Nat) (n : Int) (w : World) (h : rep w w.heap.size (.sl (l.map Item.toD)) [.slice A len cap]) (h0 : 0 ≤ n) (h1 : n ≤ 1048576) :
    Calls Try.prog 70 #[.slice A len cap, .int .i64 n] w fun e w' => e = .returned (.int .i64 (lft (szD (.sl (l.map Item.toD))) n)) ∧ Below w.heap.size w w' := by
  obtain ⟨hll, hlc, hcm⟩ := rep_sl_len h
  unfold maxLen at hcm
  rw [List.length_map] at hll
  rw [szD, List.length_map, hll]
  by_cases hn : n < len
  · clear hll
    go_enter Try.func70, Try.ntmps70
    go_wp2_with fail
    go_ret
    exact ⟨ret_int (by rw [lft_no (by omega)]), Below.refl _ _⟩
  · have hd : decide (n - (len : Int) < 0) = false := by simp; omega
    have HL := Lib.hid hll
    have HI := Lib.hid ih
    clear hll ih
    go_enter Try.func70, Try.ntmps70
    go_wp2_with fail
    go_loopw [1, 5] (fun m i wr => ∃ k : Nat, k ≤ len ∧ i = .int .i64 k ∧ m = .int .i64 (n - len - szDs ((l.take k).map Item.toD)) ∧ (len + szDs ((l.take k).map Item.toD) : Int) ≤ n ∧ Below w.heap.size w wr) (fun _ i _ => len - (intOf i).toNat)
    case atStart => exact ⟨0, by omega, rfl, by simp [szDs], by simp [szDs]; omega, Below.refl _ _⟩
    case round =>
      obtain ⟨k, hk, rfl, rfl, hle, hb⟩ := hrel
      by_cases hlt : k < len
      · obtain ⟨b, off, x, rfl, hbl, hx, hrx, hc0, hc1, hc2⟩ := Item_at (rep_below h hb) hlt
        have HT := Lib.hid (szDs_take (f := Item.toD) hx)
        have HU := Lib.hid (szDs_le (f := Item.toD) l (k + 1))
        have HM := Lib.hid (List.mem_of_getElem? hx)
        clear hx
        obtain ⟨q, hq⟩ : ∃ q : Nat, q = szDs ((l.take k).map Item.toD) := ⟨_, rfl⟩
        rw [← hq] at hle ⊢
        have HQ := Lib.hid hq
        clear hq
        go_wp2_with fail
        refine (HI.out x HM.out _ _ _ (rep_more hrx hb.size) (by omega) (by omega)).mono ?_
        rintro e w1 ⟨rfl, hb1⟩
        have hlf : (len + q : Int) + szD x.toD ≤ n → lft (szD x.toD) (n - len - q) = n - len - ((q + szD x.toD : Nat) : Int) := fun h => by rw [lft_of (by omega)]; omega
        have HLF := Lib.hid hlf
        clear hlf
        by_cases hn2 : (len + q : Int) + szD x.toD ≤ n
        · have hd2 : decide (lft (szD x.toD) (n - len - q) < 0) = false := by rw [HLF.out hn2]; simp; omega
          go_wp2_with fail
          go_roundw
          case rel => exact ⟨k + 1, by omega, by go_num, by rw [HLF.out hn2, HT.out, ← HQ.out], by rw [HT.out, ← HQ.out]; omega, bth hb hb1⟩
          case measure => simp [intOf]; omega
        · have hd2 : decide (lft (szD x.toD) (n - len - q) < 0) = true := by unfold lft; rw [if_neg (by omega)]; rfl
          go_wp2_with fail
          go_ret
          exact ⟨ret_int (by rw [lft, if_neg]; have h1 := HT.out; have h2 := HU.out; have h3 := HQ.out; omega), bth hb hb1⟩
      · obtain rfl : k = len := by omega
        go_wp2_with fail
        go_ret
        rw [List.take_of_length_le (by rw [HL.out]; omega)] at hle ⊢
        exact ⟨ret_int (by rw [lft_of (by omega)]; omega), hb⟩
theorem szItem_any (x : Item) : Item_szP x := szItem_of x
theorem szItemS_any (l : List Item) (A : Option Addr) (len cap : Nat) (n : Int) (w : World) (h : rep w w.heap.size (.sl (l.map Item.toD)) [.slice A len cap]) (h0 : 0 ≤ n) (h1 : n ≤ 1048576) :
    Calls Try.prog 70 #[.slice A len cap, .int .i64 n] w fun e w' => e = .returned (.int .i64 (lft (szD (.sl (l.map Item.toD))) n)) ∧ Below w.heap.size w w' := szItemS_of l (fun x _ => szItem_any x) A len cap n w h h0 h1
def Item_toP (x : Item) : Prop := ∀ (cs : List Value) (w : World), rep w w.heap.size x.toD cs → szD x.toD ≤ 1048576 → Calls Try.prog 98 #[.agg cs.toArray] w (NewSt x.toD 101 w)
set_option maxRecDepth 100000 in
set_option maxHeartbeats 8000000 in
theorem toItem_of (x : Item) : Item_toP x := by
  intro cs w h hz
  have hsz := Item_sz x
  rw [hsz] at hz
  clear hsz
  obtain ⟨_, rfl, wnum, wden, wtext⟩ := Item_open h
  go_enter Try.func98, Try.ntmps98
  go_wp2_with fail
  skip
  refine bodyPost_ret (v := .agg #[.int .i64 x.num, .int .i64 x.den, sv x.text]) (by simp [results, Try.results98, go_sem]) rfl ⟨_, [], rfl, ?_, ?_, ?_⟩
  · refine Item_own wnum wden wtext
  · exact Fresh.nil
  · exact (by repeat' (first | with_reducible exact (Below.refl w.heap.size w) | refine Below.setCell ?_ ?_ _ | refine Below.alloc ?_ ?_ _ | ((try simp only [wsize_alloc, wsize_set]); omega)))
theorem ItemInfo : (Try.prog.info? 101).map (fun i => (i.zero, i.size, i.bytes)) = some (some (.agg #[.int .i64 0, .int .i64 0, sv []]), 3, 32) := by kernel_rfl
set_option maxRecDepth 100000 in
set_option maxHeartbeats 8000000 in
theorem toItemS_of (l : List Item) (ih : ∀ x ∈ l, Item_toP x) (A : Option Addr) (len cap : Nat) (w : World) (h : rep w w.heap.size (.sl (l.map Item.toD)) [.slice A len cap]) (hz : szD (.sl (l.map Item.toD)) ≤ 1048576) :
    Calls Try.prog 74 #[.slice A len cap] w (NewSl (l.map Item.toD) 31 w) := by
  obtain ⟨hll, hlc, hcm⟩ := rep_sl_len h
  rw [List.length_map] at hll
  rw [szD, List.length_map, hll] at hz
  obtain ⟨i0, hi0, hz0, hz1, hz2⟩ := info_parts ItemInfo
  have hmk := fun W => run_make_rowN (P := Try.prog) 31 101 i0 _ Try.underlying31 hi0 hz0 .i64 .i64 len len (Nat.le_refl _) (by rw [hz2]; omega) (by omega) W
  rw [hz1] at hmk
  have HL := Lib.hid hll
  have HI := Lib.hid ih
  clear hll ih
  go_enter Try.func74, Try.ntmps74
  go_wp2_with fail
  clear hmk
  go_loopw [4] (fun i wr => ∃ (k : Nat) (rows : List (Row 3)) (G : List Nat), k ≤ len ∧ i = .int .i64 k ∧ rows.length = k ∧ Fil wr w.heap.size 101 (len * 3) (k * 3) (rows.flatMap Row.v) ∧ ownA Try.prog wr ((l.take k).map Item.toD) 101 G (rows.map Row.v) ∧ Fresh (w.heap.size + 1) G ∧ Below w.heap.size w wr) (fun i _ => len - (intOf i).toNat)
  case atStart => exact ⟨0, [], [], by omega, rfl, rfl, by simpa using Fil.start w 101 (madeCells #[.int .i64 0, .int .i64 0, sv []] (len * 3)) (len * 3) (size_madeCells _ _), by rw [List.take_zero, List.map_nil, ownA]; exact ⟨rfl, rfl⟩, Fresh.nil, (Below.refl _ _).alloc (Nat.le_refl _) _⟩
  case round =>
    obtain ⟨k, rows, G, hk, rfl, hrk, hf, ho, hG, hb⟩ := hrel
    have HRK := Lib.hid hrk
    clear hrk
    by_cases hlt : k < len
    · obtain ⟨b, off, x, rfl, hbl, hx, hrx, hc0, hc1, hc2⟩ := Item_at (rep_below h hb) hlt
      have HX := Lib.hid (take_snoc' hx)
      have HM := Lib.hid (List.mem_of_getElem? hx)
      have hsx : szD x.toD ≤ 1048576 := by
        have := szDs_mem (List.mem_map_of_mem (f := Item.toD) HM.out); omega
      clear hx
      go_wp2_with fail
      refine (HI.out x HM.out _ _ (rep_more hrx hb.size) hsx).mono ?_
      rintro e w1 ⟨cs1, G1, rfl, ho1, hG1, hb1⟩
      obtain ⟨_, rfl, _⟩ := Item_open (own_rep _ _ _ _ ho1)
      have hf1 := hf.next hb1
      have hl1 := hf.lt
      obtain ⟨u0, hu0⟩ := hf1.cell (k * 3) (by omega)
      have hz0 := hf1.frozen (k * 3)
      obtain ⟨u1, hu1⟩ := hf1.cell (k * 3 + 1) (by omega)
      have hz1 := hf1.frozen (k * 3 + 1)
      obtain ⟨u2, hu2⟩ := hf1.cell (k * 3 + 2) (by omega)
      have hz2 := hf1.frozen (k * 3 + 2)
      go_wp2_with fail
      have hfp := (((hf1.put (by omega) (.int .i64 x.num)).put (by omega) (.int .i64 x.den)).put (by omega) (sv x.text))
      have hbp := ((((hb.trans (hb1.mono hb.size)).setCell (p := ⟨w.heap.size, k * 3, none⟩) (Nat.le_refl _) (.int .i64 x.num)).setCell (p := ⟨w.heap.size, k * 3 + 1, none⟩) (Nat.le_refl _) (.int .i64 x.den)).setCell (p := ⟨w.heap.size, k * 3 + 2, none⟩) (Nat.le_refl _) (sv x.text))
      have hnG : w.heap.size ∉ G ++ G1 := by
        intro hm
        rcases List.mem_append.1 hm with hm | hm
        · have := hG.2 _ hm; omega
        · have := hG1.2 _ hm; omega
      have hoA := ownA_snoc (ownA_below ho hb1) ho1
      have hoB : ownA Try.prog ((((w1.setCell ⟨w.heap.size, k * 3, none⟩ (.int .i64 x.num)).setCell ⟨w.heap.size, k * 3 + 1, none⟩ (.int .i64 x.den)).setCell ⟨w.heap.size, k * 3 + 2, none⟩ (sv x.text))) ((l.take (k + 1)).map Item.toD) 101 (G ++ G1) (rows.map Row.v ++ [[.int .i64 x.num, .int .i64 x.den, sv x.text]]) := ownA_same _ _ _ _ (fun g hg => (pk (by rintro rfl; exact hnG hg) (pk (by rintro rfl; exact hnG hg) (pk (by rintro rfl; exact hnG hg) (rfl))))) (by rw [HX.out, List.map_append]; exact hoA)
      go_roundw
      case rel =>
        exact ⟨k + 1, rows ++ [⟨[.int .i64 x.num, .int .i64 x.den, sv x.text], rfl⟩], G ++ G1, by omega, by go_num, by simp [HRK.out], by rw [List.flatMap_append, show (k + 1) * 3 = k * 3 + 3 by omega]; simpa [Row.v] using hfp, by rw [List.map_append]; exact hoB, hG.app (ownA_lt _ _ _ _ ho) hG1 (by omega), hbp⟩
      case measure => simp [intOf]; omega
    · obtain rfl : k = len := by omega
      rw [List.take_of_length_le (by rw [HL.out]; omega)] at ho
      go_wp2_with fail
      go_ret
      refine ⟨_, _, _, w.heap.size :: G, rfl, ?_, ?_, hb⟩
      · rw [own]
        exact ⟨101, _, k, k, 3, rows, G, Try.underlying31, by kernel_rfl, rfl, by unfold maxLen; omega, hf.own Row.len HRK.out (Nat.le_refl _) (by unfold maxLen; omega) (Nat.zero_le _), rfl, ho⟩
      · exact ⟨List.nodup_cons.2 ⟨hG.notin (by omega), hG.1⟩, fun g hg => by
          rcases List.mem_cons.1 hg with rfl | hg
          · omega
          · have := hG.2 g hg; omega⟩
theorem toItem_any (x : Item) : Item_toP x := toItem_of x
theorem toItemS_any (l : List Item) (A : Option Addr) (len cap : Nat) (w : World) (h : rep w w.heap.size (.sl (l.map Item.toD)) [.slice A len cap]) (hz : szD (.sl (l.map Item.toD)) ≤ 1048576) :
    Calls Try.prog 74 #[.slice A len cap] w (NewSl (l.map Item.toD) 31 w) := toItemS_of l (fun x _ => toItem_any x) A len cap w h hz
def Item_eqP (x : Item) : Prop := ∀ (cs cs' : List Value) (w : World), rep w w.heap.size x.toD cs → rep w w.heap.size x.toD cs' → Calls Try.prog 91 #[.agg cs.toArray, .agg cs'.toArray] w fun e w' => e = .returned (.bool true) ∧ Below w.heap.size w w'
set_option maxHeartbeats 8000000 in
theorem eqItem_of (x : Item) : Item_eqP x := by
  intro cs cs' w h h'
  obtain ⟨_, rfl, wnum, wden, wtext⟩ := Item_open h
  obtain ⟨_, rfl, wnum', wden', wtext'⟩ := Item_open h'
  have inum : (x.num != x.num) = false := by simp
  have iden : (x.den != x.den) = false := by simp
  have itext : (x.text == x.text) = true := by simp
  have q0 := ((Below.refl w.heap.size w).alloc (Nat.le_refl _) (.cells #[.int .i64 x.num, .int .i64 x.den, sv x.text] 101)).alloc (by simp only [wsize_alloc]; omega) (.cells #[.int .i64 x.num, .int .i64 x.den, sv x.text] 101)
  go_enter Try.func91, Try.ntmps91
  go_wp2_with fail
  go_ret
  exact ⟨rfl, q0⟩
set_option maxRecDepth 100000 in
set_option maxHeartbeats 8000000 in
theorem eqItemS_of (l : List Item) (ih : ∀ x ∈ l, Item_eqP x) (A A' : Option Addr) (n n' c c' : Nat) (w : World) (h : rep w w.heap.size (.sl (l.map Item.toD)) [.slice A n c]) (h' : rep w w.heap.size (.sl (l.map Item.toD)) [.slice A' n' c']) :
    Calls Try.prog 60 #[.slice A n c, .slice A' n' c'] w fun e w' => e = .returned (.bool true) ∧ Below w.heap.size w w' := by
  obtain ⟨hll, hlc, hcm⟩ := rep_sl_len h
  obtain ⟨hll', hlc', hcm'⟩ := rep_sl_len h'
  rw [List.length_map] at hll hll'
  obtain rfl : n' = n := by omega
  have hd : ((n' : Int) != (n' : Int)) = false := by simp
  unfold maxLen at hcm
  have HI := Lib.hid ih
  clear hll hll' ih
  go_enter Try.func60, Try.ntmps60
  go_wp2_with fail
  go_loopw [5] (fun i wr => ∃ (k : Nat), k ≤ n' ∧ i = .int .i64 k ∧ Below w.heap.size w wr) (fun i _ => n' - (intOf i).toNat)
  case atStart => exact ⟨0, by omega, rfl, Below.refl _ _⟩
  case round =>
    obtain ⟨k, hk, rfl, hb⟩ := hrel
    by_cases hlt : k < n'
    · obtain ⟨b, off, x, rfl, hbl, hx, hrx, hc0, hc1, hc2⟩ := Item_at (rep_below h hb) hlt
      obtain ⟨b', off', x', rfl, hbl', hx', hrx', hd0, hd1, hd2⟩ := Item_at (rep_below h' hb) hlt
      obtain rfl : x = x' := by rw [hx] at hx'; injection hx'
      have HM := Lib.hid (List.mem_of_getElem? hx)
      clear hx hx'
      have i1 : (0 : Int) ≤ (k : Int) := by omega
      have i2 : (k : Int) < (n' : Int) := by omega
      have hbw : b < wr.heap.size := by have := hb.size; omega
      have hbw' : b' < wr.heap.size := by have := hb.size; omega
      have hr1 := rep_more hrx hb.size
      have hr2 := rep_more hrx' hb.size
      go_wp2_with fail
      go_region_held3 (fun W => (W.cell? ⟨b, off + k * 3, none⟩ = some (.int .i64 x.num) ∧ W.cell? ⟨b, off + k * 3 + 1, none⟩ = some (.int .i64 x.den) ∧ W.cell? ⟨b, off + k * 3 + 2, none⟩ = some (sv x.text)) ∧ (W.cell? ⟨b', off' + k * 3, none⟩ = some (.int .i64 x.num) ∧ W.cell? ⟨b', off' + k * 3 + 1, none⟩ = some (.int .i64 x.den) ∧ W.cell? ⟨b', off' + k * 3 + 2, none⟩ = some (sv x.text)))
        (first | exact ⟨⟨hc0, hc1, hc2⟩, ⟨hd0, hd1, hd2⟩⟩ | exact ⟨⟨(hb1.cell hbw).trans hc0, (hb1.cell hbw).trans hc1, (hb1.cell hbw).trans hc2⟩, ⟨(hb1.cell hbw').trans hd0, (hb1.cell hbw').trans hd1, (hb1.cell hbw').trans hd2⟩⟩)
        (first | (go_at_call 91; refine (HI.out x HM.out _ _ _ (by first | with_reducible exact hr1 | exact rep_drew hr1 | exact rep_drewN hr1 _) (by first | with_reducible exact hr2 | exact rep_drew hr2 | exact rep_drewN hr2 _)).mono ?_; rintro e w1 ⟨rfl, hb1⟩))
      go_wp2_with fail
      go_roundw
      case rel => exact ⟨k + 1, by omega, by go_num, bth hb.drew hb1⟩
      case measure => simp [intOf]; omega
    · obtain rfl : k = n' := by omega
      go_wp2_with fail
      go_ret
      exact ⟨rfl, hb⟩
theorem eqItem_any (x : Item) : Item_eqP x := eqItem_of x
theorem eqItemS_any (l : List Item) (A A' : Option Addr) (n n' c c' : Nat) (w : World) (h : rep w w.heap.size (.sl (l.map Item.toD)) [.slice A n c]) (h' : rep w w.heap.size (.sl (l.map Item.toD)) [.slice A' n' c']) :
    Calls Try.prog 60 #[.slice A n c, .slice A' n' c'] w fun e w' => e = .returned (.bool true) ∧ Below w.heap.size w w' := eqItemS_of l (fun x _ => eqItem_any x) A A' n n' c c' w h h'
end Go.Proofs.Ytekcpadlmfaihaa
