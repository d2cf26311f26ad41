/- What StoreEntry of the program and of the reference return, for all arguments. -/
import Derived.Test.YtecebamhenlnoaaCa
namespace Go.Proofs.Ytecebamhenlnoaa
open Go.RowKit
/-- What storing gives. -/
def keepE (l : List Pair) (key : Str) : List Pair := l.filter fun e => !(e.1 == key)
def stE (l : List Pair) (key out : Str) : List Pair := if isC l then ((key, out) :: keepE l key).take 8 else []
theorem keepE_snoc {l : List Pair} {k : Nat} {x : Pair} (h : l[k]? = some x) (key : Str) : keepE (l.take (k + 1)) key = keepE (l.take k) key ++ (if x.1 = key then [] else [x]) := by
  rw [take_snoc' h, keepE, List.filter_append]
  by_cases hx : x.1 = key <;> simp [keepE, hx]
theorem keepE_len (l : List Pair) (key : Str) (k : Nat) : (keepE (l.take k) key).length ≤ k := by
  have := List.length_filter_le (fun e : Pair => !(e.1 == key)) (l.take k)
  have h2 : (l.take k).length ≤ k := List.length_take_le _ _
  unfold keepE; omega
theorem isC_len {l : List Pair} (h : isC l = true) : l.length ≤ 8 := by
  simp only [isC] at h; simp at h; exact h.1
set_option maxHeartbeats 1000000 in
theorem implStore_any (A : Option Addr) (len cap : Nat) (l : List Pair) (key out : Str) (w : World) (hr : Reads enc2 2 w w.heap.size A len l) (hlen : len ≤ 1048576) :
    Calls Try.prog 20 #[.slice A len cap, sv key, sv out] w fun e w' => ∃ A' n c, e = .returned (.slice A' n c) ∧ OwnEntry w' w.heap.size A' n c (stE l key out) ∧ Below w.heap.size w w' := by
  go_enter Try.func20, Try.ntmps20
  go_wp2_with fail
  refine (implIsCache_any A len cap l _ hr hlen).mono ?_
  rintro e w1 ⟨rfl, hb1⟩
  cases hc : isC l with
  | false =>
    go_wp2_with fail
    go_ret
    exact ⟨_, _, _, rfl, by rw [stE, hc]; exact Own.nil_, hb1⟩
  | true =>
    have hl8 := isC_len hc
    rw [hr.len] at hl8
    have HC := Lib.hid hc
    clear hc
    go_wp2_with fail
    go_loopw [7, 19] (fun v i wr => ∃ (k : Nat) (g n c : Nat), k ≤ len ∧ n ≤ k + 1 ∧ i = .int .i64 k ∧ v = .slice (some ⟨g, 0, none⟩) n c ∧ OwnEntry wr w.heap.size (some ⟨g, 0, none⟩) n c ((key, out) :: keepE (l.take k) key) ∧ Below w.heap.size w wr) (fun _ i _ => len - (intOf i).toNat)
    case atStart => exact ⟨0, w1.heap.size, 1, 1, by omega, by omega, rfl, rfl, Own.new_ enc2_len w1 _ _ rfl rfl (by unfold maxLen; omega) hb1.size rfl, hb1.alloc hb1.size _⟩
    case round =>
      obtain ⟨k, g, n, c, hk, hnk, rfl, rfl, ho, hb⟩ := hrel
      by_cases hlt : k < len
      · obtain ⟨b, off, x, y, rfl, hbl, hx, hc0, hc1⟩ := (hr.below hb).at2 hlt
        have HX := Lib.hid hx
        clear hx
        go_wp2_with (first | (at_builtin; refine wpList_app1 enc2 tyEntry enc2_len enc2_one rfl _ _ rfl w.heap.size _ n c _ rfl ((ho.alloc _).alloc _) (x, y) _ 0 1 rfl (news2 _ x y _ _ ?_) ?_ ?_ ?_ ?_; (simp); (omega); (unfold maxLen; omega); (have := hb.size; simp; omega); intro g1 c1 w1 ho1 hg1 hb1 hat1))
        · have hq := of_bne (a := x) (b := key) (by assumption)
          have hb2 := (hb.alloc hb.size (.cells #[sv x, sv y] 37)).alloc (o := .cells #[sv x, sv y] 37) (by have := hb.size; simp; omega)
          go_roundw
          case rel => exact ⟨k + 1, g1, n + 1, c1, by omega, by omega, by go_num, rfl, by rw [keepE_snoc HX.out, if_neg hq]; exact ho1, hb2.trans hb1⟩
          case measure => simp [intOf]; omega
        · have hq := of_nbne (a := x) (b := key) (by assumption)
          go_roundw
          case rel => exact ⟨k + 1, g, n, c, by omega, by omega, by go_num, rfl, by rw [keepE_snoc HX.out, if_pos hq, List.append_nil]; exact ho.alloc _, hb.alloc hb.size _⟩
          case measure => simp [intOf]; omega
      · obtain rfl : len = k := by omega
        have hl : l.take len = l := List.take_of_length_le (by rw [hr.len]; omega)
        rw [hl] at ho
        have hn := ho.len
        have hcap := ho.cap
        have HN := Lib.hid hn
        clear hn
        by_cases h8 : 8 < n
        · go_wp2
          go_ret
          exact ⟨_, _, _, rfl, by rw [stE, HC.out]; exact ho.take enc2_len (by omega) (by simp), hb⟩
        · go_wp2
          go_ret
          exact ⟨_, _, _, rfl, by rw [stE, HC.out, if_pos rfl, List.take_of_length_le (by rw [HN.out]; omega)]; exact ho, hb⟩
theorem filt_take (l : List Pair) (key : Str) (p : Pair) (k : Nat) (h : (p :: keepE (l.take k) key).length = 8) : (p :: keepE l key).take 8 = p :: keepE (l.take k) key := by
  have e1 : keepE l key = keepE (l.take k) key ++ keepE (l.drop k) key := by
    rw [keepE, keepE, keepE, ← List.filter_append, List.take_append_drop]
  rw [e1, ← List.cons_append, List.take_append_of_le_length (by omega), List.take_of_length_le (by omega)]
set_option maxHeartbeats 1000000 in
theorem specStore_any (A : Option Addr) (len cap : Nat) (l : List Pair) (key out : Str) (w : World) (hr : Reads enc2 2 w w.heap.size A len l) (hlen : len ≤ 1048576) :
    Calls Try.prog 21 #[.slice A len cap, sv key, sv out] w fun e w' => ∃ A' n c, e = .returned (.slice A' n c) ∧ OwnEntry w' w.heap.size A' n c (stE l key out) ∧ Below w.heap.size w w' := by
  go_enter Try.func21, Try.ntmps21
  go_wp2_with fail
  have hb0 := (Below.refl w.heap.size w).alloc (Nat.le_refl _) (.cells #[sv key, sv out] 37)
  refine (specIsCache_any A len cap l _ (hr.next hb0) hlen).mono ?_
  rintro e w1 ⟨rfl, rfl⟩
  cases hc : isC l with
  | false =>
    go_wp2_with fail
    go_ret
    exact ⟨_, _, _, rfl, by rw [stE, hc]; exact Own.new_ (n := 0) enc2_len _ [] _ rfl rfl (by unfold maxLen; omega) hb0.size (by simp), (hb0.alloc hb0.size _)⟩
  | true =>
    have hl8 := isC_len hc
    rw [hr.len] at hl8
    have HC := Lib.hid hc
    clear hc
    go_wp2_with fail
    go_loopw [7, 8] (fun v i wr => ∃ (k : Nat) (g n c : Nat), k ≤ len ∧ n ≤ 8 ∧ i = .int .i64 k ∧ v = .slice (some ⟨g, 0, none⟩) n c ∧ OwnEntry wr w.heap.size (some ⟨g, 0, none⟩) n c ((key, out) :: keepE (l.take k) key) ∧ Below w.heap.size w wr) (fun _ i _ => len - (intOf i).toNat)
    case atStart => exact ⟨0, w.heap.size, 1, 1, by omega, by omega, rfl, rfl, Own.new_ enc2_len w _ _ rfl rfl (by unfold maxLen; omega) (Nat.le_refl _) rfl, hb0⟩
    case round =>
      obtain ⟨k, g, n, c, hk, hnk, rfl, rfl, ho, hb⟩ := hrel
      by_cases hlt : k < len
      · by_cases h8 : n < 8
        · obtain ⟨b, off, x, y, rfl, hbl, hx, hc0, hc1⟩ := (hr.below hb).at2 hlt
          have HX := Lib.hid hx
          clear hx
          go_wp2_with (first | (at_builtin; refine wpList_app1 enc2 tyEntry enc2_len enc2_one rfl _ _ rfl w.heap.size _ n c _ rfl (ho.alloc _) (x, y) _ 0 1 rfl (news2 _ x y _ _ ?_) ?_ ?_ ?_ ?_; (simp); (omega); (unfold maxLen; omega); (have := hb.size; simp; omega); intro g1 c1 w1 ho1 hg1 hb1 hat1))
          · have hq := of_bne (a := x) (b := key) (by assumption)
            go_roundw
            case rel => exact ⟨k + 1, g1, n + 1, c1, by omega, by omega, by go_num, rfl, by rw [keepE_snoc HX.out, if_neg hq]; exact ho1, (hb.alloc hb.size _).trans hb1⟩
            case measure => simp [intOf]; omega
          · have hq := of_nbne (a := x) (b := key) (by assumption)
            go_roundw
            case rel => exact ⟨k + 1, g, n, c, by omega, by omega, by go_num, rfl, by rw [keepE_snoc HX.out, if_pos hq, List.append_nil]; exact ho, hb⟩
            case measure => simp [intOf]; omega
        · obtain rfl : n = 8 := by omega
          go_wp2
          go_ret
          exact ⟨_, _, _, rfl, by rw [stE, HC.out, if_pos rfl, filt_take l key _ k ho.len]; exact ho, hb⟩
      · obtain rfl : len = k := by omega
        have hl : l.take len = l := List.take_of_length_le (by rw [hr.len]; omega)
        rw [hl] at ho
        have HN := Lib.hid ho.len
        go_wp2
        go_ret
        exact ⟨_, _, _, rfl, by rw [stE, HC.out, if_pos rfl, List.take_of_length_le (by rw [HN.out]; omega)]; exact ho, hb⟩
end Go.Proofs.Ytecebamhenlnoaa
