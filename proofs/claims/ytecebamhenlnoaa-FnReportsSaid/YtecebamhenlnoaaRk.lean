/- Reading reports: what ParseReport of the reference returns. -/
import Derived.Test.YtecebamhenlnoaaRj
namespace Go.Proofs.Ytecebamhenlnoaa
open Go.RowKit
theorem lne {A1 A : Option Addr} {n1 c1 n c p q : Nat} (h1 : ∀ g, (Value.slice A1 n1 c1).ownBlock = some g → p < g ∧ g < q) (h2 : ∀ g, (Value.slice A n c).ownBlock = some g → g = p ∨ q ≤ g) : A1 = none ∨ (Value.slice A1 n1 c1).ownBlock ≠ (Value.slice A n c).ownBlock := by
  cases A1 with
  | none => exact .inl rfl
  | some b =>
    refine .inr fun e => ?_
    have h3 := h1 _ rfl
    have h4 := h2 _ e.symm
    omega
set_option maxRecDepth 100000 in
set_option maxHeartbeats 4000000 in
theorem specParseReport_any (s : Str) (w : World) (hs : (s.length : Int) ≤ 1048576) :
    Calls Try.prog 34 #[sv s] w (PRPost s w) := by
  have hob : OwnPart (w.alloc (.cells #[] 68)) w.heap.size (some ⟨w.heap.size, 0, none⟩) 0 0 [] := Own.new_ (n := 0) enc2_len w [] _ rfl rfl (by unfold maxLen; omega) (Nat.le_refl _) rfl
  have hb0 : Below w.heap.size w (w.alloc (.cells #[] 68)) := (Below.refl _ _).alloc (Nat.le_refl _) _
  by_cases h4 : 4000 < (s.length : Int)
  · have hres : pR s = none := by rw [pR, if_pos (.inl (by omega))]
    have HR := Lib.hid hres
    clear hres
    go_enter Try.func34, Try.ntmps34
    go_wp2_with fail
    go_ret2
    exact ⟨_, 0, 0, by rw [HR.out]; rfl, by rw [HR.out]; exact hob, by omega, hb0⟩
  by_cases hE : ndl s = false
  · have hres : pR s = none := by rw [pR, if_pos (.inr hE)]
    have HR := Lib.hid hres
    clear hres
    have h0 : ¬ s = [] := by rintro rfl; cases hE
    have hl : 1 ≤ s.length := by cases s with | nil => exact absurd rfl h0 | cons => simp
    have h0' : s.isEmpty = false := by cases s with | nil => exact absurd rfl h0 | cons => rfl
    have hd : ((s[s.length - 1].toNat : Int) != 10) = true := by
      rw [ndl, h0', List.getElem?_eq_getElem (by omega), Bool.false_or, Option.getD_some] at hE
      simp at hE ⊢; omega
    have l1 : 1 ≤ (s.length : Int) := by omega
    clear hE h0
    go_enter Try.func34, Try.ntmps34
    go_wp2_with fail
    go_ret2
    exact ⟨_, 0, 0, by rw [HR.out]; rfl, by rw [HR.out]; exact hob, by omega, hb0⟩
  replace hE : ndl s = true := by simpa using hE
  have hcases : s.isEmpty = true ∨ (s.isEmpty = false ∧ ∃ h : s.length - 1 < s.length, ((s[s.length - 1].toNat : Int) != 10) = false) := by
    cases he : s.isEmpty with
    | true => exact .inl rfl
    | false =>
      have h0 := ne_empty he
      have hl : 1 ≤ s.length := by cases s with | nil => exact absurd rfl h0 | cons => simp
      refine .inr ⟨rfl, by omega, ?_⟩
      rw [ndl, he, List.getElem?_eq_getElem (by omega), Bool.false_or, Option.getD_some] at hE
      simp at hE ⊢; omega
  have hres : pR s = if ((lns s).foldl pst ([], false)).2 = true ∨ repOK ((lns s).foldl pst ([], false)).1 = false then none else some ((lns s).foldl pst ([], false)).1 := by
    rw [pR, if_neg (by rw [hE]; simp; omega)]
  have HR := Lib.hid hres
  clear hres
  go_enter Try.func34, Try.ntmps34
  rcases hcases with he | ⟨he, hlx, hne⟩
  · have hs0 := empty_of he
    subst hs0
    clear HR
    have HR : Hid (pR [] = some []) := by show pR [] = some []; decide
    go_wp2_with fail
    refine (l37Lines_any [] _ (by simp)).mono ?_
    rintro e w1 ⟨A1, n1, c1, rfl, ho1, hb1⟩
    obtain rfl : n1 = 0 := by have := ho1.len; simpa [lns, lnsA] using this.symm
    have hob1 := hob.below hb1
    have hb1' := bth hb0 hb1
    go_wp2_with fail
    go_loop [4, 6, 7] (fun v b i => v = .slice (some ⟨w.heap.size, 0, none⟩) 0 0 ∧ b = .bool false ∧ i = .int .i64 0) (fun _ _ _ => 0)
    case atStart => exact ⟨rfl, rfl, rfl⟩
    case round =>
      obtain ⟨rfl, rfl, rfl⟩ := hrel
      go_wp2_with fail
      refine (specIsReport_any _ 0 0 [] _ (hob1.reads enc2_len) (by omega) (by simp)).mono ?_
      rintro e w5 ⟨rfl, hb5⟩
      have hR0 : repOK [] = true := by decide
      rw [hR0]
      go_wp2_with fail
      go_ret2
      exact ⟨_, 0, 0, by rw [HR.out]; rfl, by rw [HR.out]; exact hob1.below hb5, by omega, bth hb1' hb5⟩
  all_goals
    go_wp2_with fail
    refine (l37Lines_any s _ (by omega)).mono ?_
    rintro e w1 ⟨A1, n1, c1, rfl, ho1, hb1⟩
    have hob1 := hob.below hb1
    have hb1' := bth hb0 hb1
    have hll := lns_len s
    have hn1 := ho1.len
    rw [List.length_map] at hn1
    have hn1' : n1 ≤ 4000 := by omega
    have HN := Lib.hid hn1
    clear hn1
    have ho1' : OwnStr w1 (w.heap.size + 1) A1 n1 c1 ((lns s).map (· ++ [10])) := by simpa using ho1
    have HGL : ∀ g, (Value.slice A1 n1 c1).ownBlock = some g → w.heap.size < g ∧ g < w1.heap.size := fun g he => by have := ho1'.row g he; omega
    have hs01 : w.heap.size ≤ w1.heap.size := hb1'.size
    have htot : lsum (lns s) ≤ 4000 := by have := lsum_lnsA [] s; simp at this; show lsum (lnsA [] s) ≤ 4000; omega
    have HT := Lib.hid htot
    clear htot ho1
    go_wp2_with fail
    go_loopw [4, 6, 7] (fun v b i wr => ∃ (k : Nat) (A : Option Addr) (n c : Nat) (out : List Pair) (ins : Bool), k ≤ n1 ∧ n ≤ k ∧ i = .int .i64 k ∧ b = .bool ins ∧ v = .slice A n c ∧ OwnPart wr w.heap.size A n c out ∧ (∀ g, (Value.slice A n c).ownBlock = some g → g = w.heap.size ∨ w1.heap.size ≤ g) ∧ ((lns s).take k).foldl pst ([], false) = (out, ins) ∧ (ins = true → 0 < n) ∧ fits out (lsum ((lns s).take k)) ∧ Below w.heap.size w wr ∧ OwnStr wr (w.heap.size + 1) A1 n1 c1 ((lns s).map (· ++ [10])) ∧ w1.heap.size ≤ wr.heap.size) (fun _ _ i _ => n1 - (intOf i).toNat)
    case atStart => exact ⟨0, _, 0, 0, [], false, by omega, by omega, rfl, rfl, rfl, hob1, (by intro g he; injection he with he; simp only at he; omega), rfl, by simp, by intro e he; simp at he, hb1', ho1', Nat.le_refl _⟩
    case round =>
      obtain ⟨k, A, n, c, out, ins, hk, hnk, rfl, rfl, rfl, ho, hg, hst, hin, hft, hb, hl1, hw1⟩ := hrel
      have hbs := hb.size
      by_cases hlt : k < n1
      · obtain ⟨b, off, z', rfl, hbl, hz', hcz⟩ := (hl1.reads encS_len).atS hlt
        obtain ⟨z, hz, rfl⟩ : ∃ x, (lns s)[k]? = some x ∧ z' = x ++ [10] := by
          rw [List.getElem?_map] at hz'
          cases h : (lns s)[k]? with
          | none => rw [h] at hz'; cases hz'
          | some x => rw [h] at hz'; injection hz' with hz'; exact ⟨x, rfl, hz'.symm⟩
        have hzl := lns_sizes s z (List.mem_of_getElem? hz)
        have hsum := lsum_snoc hz
        have hle := lsum_take (lns s) (k + 1)
        have hle' : lsum ((lns s).take k) + (z.length + 1) ≤ 4000 := by have := HT.out; omega
        have HF := Lib.hid (fold_snoc hz ([], false))
        have HSm := Lib.hid hsum
        have HST := Lib.hid hst
        have hml := mid_len z
        clear hz hz' hsum hle hst
        have h64e : ((z ++ [10]) == [64, 10]) = (z == [64]) := by
          rw [Bool.eq_iff_iff]; simp only [beq_iff_eq]
          constructor
          · intro h; exact List.append_inj_left' (t₁ := [10]) (t₂ := [10]) (s₂ := [64]) h rfl
          · rintro rfl; rfl
        have hne : (opnS z).isEmpty = !(opn z).2 := by
          have := opnS_ne z
          cases h : opnS z with
          | nil => rw [h] at this; simp at this; simp [this]
          | cons a t => rw [h] at this; simp at this; simp [this]
        go_wp2_with fail
        refine (l37Open_any z _ (by omega)).mono ?_
        rintro e w2 ⟨rfl, rfl⟩
        cases ins with
        | true =>
          have hn0' : 0 < n := hin rfl
          have hn0 : 0 < (n : Int) := by omega
          rcases ho.cases with ⟨_, h0, _⟩ | ⟨g, rfl⟩
          · omega
          obtain ⟨_, _, x, y, e0, _, hx, hx0, hx1⟩ := (ho.reads enc2_len).at2 (k := n - 1) (by omega)
          injection e0 with e0; injection e0 with e0 e0'; subst e0 e0'
          simp only [Nat.zero_add] at hx0 hx1
          have hxl := hft _ (List.mem_of_getElem? hx)
          simp only at hxl
          have hz1 := ho.fil.1.frozen ((n - 1) * 2 + 1)
          have hgl := ho.lt
          simp only at hgl
          have hne2 : b ≠ g := by have := HGL b rfl; have := hg g rfl; omega
          have ho2 := ho.set_ enc2_len (n - 1) 1 (x, y) (x, y ++ (z ++ [10])) (sv (y ++ (z ++ [10]))) hx (by omega) rfl
          have hbb : Below w.heap.size wr (wr.setCell ⟨g, (n - 1) * 2 + 1, none⟩ (sv (y ++ (z ++ [10])))) := (Below.refl _ _).setCell (p := ⟨g, (n - 1) * 2 + 1, none⟩) ho.lt.1 _
          have hll2 : OwnStr (wr.setCell ⟨g, (n - 1) * 2 + 1, none⟩ (sv (y ++ (z ++ [10])))) (w.heap.size + 1) (some ⟨b, off, none⟩) n1 c1 ((lns s).map (· ++ [10])) := hl1.kept (only_setCell (g := g) (p := ⟨g, (n - 1) * 2 + 1, none⟩) (only_refl _ _) (.inl rfl) _) (.inr (by simp only [Value.ownBlock]; intro e; injection e with e; exact hne2 e))
          have hsz2 : w1.heap.size ≤ (wr.setCell ⟨g, (n - 1) * 2 + 1, none⟩ (sv (y ++ (z ++ [10])))).heap.size := by simpa [World.setCell] using hw1
          have hadd : addL out (z ++ [10]) = out.set (n - 1) (x, y ++ (z ++ [10])) := by rw [addL_at (p := (x, y)) (by rw [ho.len]; exact hx), ho.len]
          have hlE : lastE out = x.isEmpty := lastE_at (p := (x, y)) (by rw [ho.len]; exact hx)
          have HA := Lib.hid hadd
          have HO := Lib.hid ho2
          have HLE := Lib.hid hlE
          clear hx ho2 hadd hlE
          have i1 : (0 : Int) ≤ (n : Int) - 1 := by omega
          have i2 : (n : Int) - 1 < (n : Int) := by omega
          have i3 : (0 : Int) ≤ (k : Int) := by omega
          have i4 : (k : Int) < (n1 : Int) := by omega
          cases h64 : (z == [64]) with
          | true =>
            rw [h64] at h64e
            go_wp2_with fail
            go_roundw
            case rel => exact ⟨k + 1, _, n, c, out, false, by omega, by omega, by go_num, rfl, rfl, ho, hg, by rw [HF.out, HST.out, pst, if_pos rfl, if_pos (of_beq h64)], by simp, by rw [HSm.out]; exact fits_mono hft (by omega), hb, hl1, hw1⟩
            case measure => simp [intOf]; omega
          | false =>
            rw [h64] at h64e
            go_wp2_with fail
            have i5 : (1 : Int) ≤ (n : Int) := by omega
            have i6 : ((n : Int) - 1).toNat = n - 1 := by omega
            have i7 : ¬ 9223372036854775807 < y.length + (z.length + 1) := by omega
            go_still_tail 14, (by kernel_rfl)
            clear i6 i7
            go_wp2_with fail
            go_roundw
            case rel => exact ⟨k + 1, _, n, c, _, true, by omega, by omega, by go_num, rfl, rfl, HO.out, hg, by rw [HF.out, HST.out, pst, if_pos rfl, if_neg (of_nbeq h64), HA.out], fun _ => hn0', by rw [HSm.out, ← HA.out]; have := fits_addL hft (z ++ [10]); simpa using this, (hb.trans hbb).drew, hll2, hsz2⟩
            case measure => simp [intOf]; omega
        | false =>
          cases hop : (opn z).2 with
          | true =>
            rw [hop] at hne
            have ho1n : opnS z = (opn z).1 := by rw [opnS, if_pos hop]
            rw [ho1n] at hne ⊢
            clear ho1n
            go_wp2_with (first | (at_builtin; refine wpList_app1 enc2 tyPart enc2_len enc2_one rfl _ _ rfl w.heap.size _ n c _ rfl (ho.alloc _) ((opn z).1, ([] : Str)) _ 0 1 rfl (news2 _ _ _ _ _ ?_) ?_ ?_ ?_ ?_; (rfl); (omega); (unfold maxLen; omega); (simp; omega); intro g3 c3 w3 ho3 hg3 hb3 hat3))
            have hll3 := (hl1.alloc (.cells #[sv ((opn z).1, ([] : Str)).1, sv ((opn z).1, ([] : Str)).2] 68)).kept hg3 (lne HGL hg)
            have hgg : ∀ g, (Value.slice (some ⟨g3, 0, none⟩) (n + 1) c3).ownBlock = some g → g = w.heap.size ∨ w1.heap.size ≤ g := by
              intro g he
              injection he with he
              simp only at he
              subst he
              rcases hat3 with h | h
              · exact hg _ h
              · right; rw [h]; simp; omega
            go_roundw
            case rel => exact ⟨k + 1, _, n + 1, c3, _, true, by omega, by omega, by go_num, rfl, rfl, ho3, hgg, by rw [HF.out, HST.out, pst, if_neg (by simp), if_pos hop], fun _ => by omega, by rw [HSm.out]; exact fits_snoc (fits_mono hft (by omega)) _ (by simp only; omega) (by simp), (hb.alloc hbs _).trans hb3, hll3, by have := hb3.size; simp at this; omega⟩
            case measure => simp [intOf]; omega
          | false =>
            rw [hop] at hne
            by_cases hn0 : n = 0
            · have hn00 : ¬ (0 : Int) ≤ (n : Int) - 1 := by omega
              have hlE : lastE out = false := by
                have : out = [] := List.length_eq_zero_iff.1 (by rw [ho.len]; exact hn0)
                rw [this]; rfl
              have HLE := Lib.hid hlE
              clear hlE hn0
              go_wp2_with (first | (at_builtin; refine wpList_app1 enc2 tyPart enc2_len enc2_one rfl _ _ rfl w.heap.size _ n c _ rfl (ho.alloc _) (([] : Str), z ++ [10]) _ 0 1 rfl (news2 _ _ _ _ _ ?_) ?_ ?_ ?_ ?_; (rfl); (omega); (unfold maxLen; omega); (simp; omega); intro g3 c3 w3 ho3 hg3 hb3 hat3))
              have hll3 := (hl1.alloc (.cells #[sv (([] : Str), z ++ [10]).1, sv (([] : Str), z ++ [10]).2] 68)).kept hg3 (lne HGL hg)
              have hgg : ∀ g, (Value.slice (some ⟨g3, 0, none⟩) (n + 1) c3).ownBlock = some g → g = w.heap.size ∨ w1.heap.size ≤ g := by
                intro g he
                injection he with he
                simp only at he
                subst he
                rcases hat3 with h | h
                · exact hg _ h
                · right; rw [h]; simp; omega
              go_roundw
              case rel => exact ⟨k + 1, _, n + 1, c3, _, false, by omega, by omega, by go_num, rfl, rfl, ho3, hgg, by rw [HF.out, HST.out, pst, if_neg (by simp), if_neg (by rw [hop]; simp), if_neg (by rw [HLE.out]; simp)], by simp, by rw [HSm.out]; exact fits_snoc (fits_mono hft (by omega)) _ (by simp) (by simp), (hb.alloc hbs _).trans hb3, hll3, by have := hb3.size; simp at this; omega⟩
              case measure => simp [intOf]; omega
            · have hn0' : 0 < n := by omega
              have hn0 : 0 < (n : Int) := by omega
              rcases ho.cases with ⟨_, h0, _⟩ | ⟨g, rfl⟩
              · omega
              obtain ⟨_, _, x, y, e0, _, hx, hx0, hx1⟩ := (ho.reads enc2_len).at2 (k := n - 1) (by omega)
              injection e0 with e0; injection e0 with e0 e0'; subst e0 e0'
              simp only [Nat.zero_add] at hx0 hx1
              have hxl := hft _ (List.mem_of_getElem? hx)
              simp only at hxl
              have hz1 := ho.fil.1.frozen ((n - 1) * 2 + 1)
              have hgl := ho.lt
              simp only at hgl
              have hne2 : b ≠ g := by have := HGL b rfl; have := hg g rfl; omega
              have ho2 := ho.set_ enc2_len (n - 1) 1 (x, y) (x, y ++ (z ++ [10])) (sv (y ++ (z ++ [10]))) hx (by omega) rfl
              have hbb : Below w.heap.size wr (wr.setCell ⟨g, (n - 1) * 2 + 1, none⟩ (sv (y ++ (z ++ [10])))) := (Below.refl _ _).setCell (p := ⟨g, (n - 1) * 2 + 1, none⟩) ho.lt.1 _
              have hll2 : OwnStr (wr.setCell ⟨g, (n - 1) * 2 + 1, none⟩ (sv (y ++ (z ++ [10])))) (w.heap.size + 1) (some ⟨b, off, none⟩) n1 c1 ((lns s).map (· ++ [10])) := hl1.kept (only_setCell (g := g) (p := ⟨g, (n - 1) * 2 + 1, none⟩) (only_refl _ _) (.inl rfl) _) (.inr (by simp only [Value.ownBlock]; intro e; injection e with e; exact hne2 e))
              have hsz2 : w1.heap.size ≤ (wr.setCell ⟨g, (n - 1) * 2 + 1, none⟩ (sv (y ++ (z ++ [10])))).heap.size := by simpa [World.setCell] using hw1
              have hadd : addL out (z ++ [10]) = out.set (n - 1) (x, y ++ (z ++ [10])) := by rw [addL_at (p := (x, y)) (by rw [ho.len]; exact hx), ho.len]
              have hlE : lastE out = x.isEmpty := lastE_at (p := (x, y)) (by rw [ho.len]; exact hx)
              have HA := Lib.hid hadd
              have HO := Lib.hid ho2
              have HLE := Lib.hid hlE
              clear hx ho2 hadd hlE
              have i1 : (0 : Int) ≤ (n : Int) - 1 := by omega
              have i2 : (n : Int) - 1 < (n : Int) := by omega
              have i3 : (0 : Int) ≤ (k : Int) := by omega
              have i4 : (k : Int) < (n1 : Int) := by omega
              cases hxe : x.isEmpty with
              | true =>
                go_wp2_with fail
                have i5 : (1 : Int) ≤ (n : Int) := by omega
                have i6 : ((n : Int) - 1).toNat = n - 1 := by omega
                have i7 : ¬ 9223372036854775807 < y.length + (z.length + 1) := by omega
                go_still_tail 14, (by kernel_rfl)
                clear i6 i7
                go_wp2_with fail
                go_roundw
                case rel => exact ⟨k + 1, _, n, c, _, false, by omega, by omega, by go_num, rfl, rfl, HO.out, hg, by rw [HF.out, HST.out, pst, if_neg (by simp), if_neg (by rw [hop]; simp), if_pos (by rw [HLE.out]; exact hxe), HA.out], by simp, by rw [HSm.out, ← HA.out]; have := fits_addL hft (z ++ [10]); simpa using this, (hb.trans hbb).drew, hll2, hsz2⟩
                case measure => simp [intOf]; omega
              | false =>
                have hlE : lastE out = false := by rw [HLE.out]; exact hxe
                have HLE2 := Lib.hid hlE
                clear hlE HLE
                have HLE := HLE2
                go_wp2_with (first | (at_builtin; refine wpList_app1 enc2 tyPart enc2_len enc2_one rfl _ _ rfl w.heap.size _ n c _ rfl (ho.alloc _) (([] : Str), z ++ [10]) _ 0 1 rfl (news2 _ _ _ _ _ ?_) ?_ ?_ ?_ ?_; (rfl); (omega); (unfold maxLen; omega); (simp; omega); intro g3 c3 w3 ho3 hg3 hb3 hat3))
                have hll3 := (hl1.alloc (.cells #[sv (([] : Str), z ++ [10]).1, sv (([] : Str), z ++ [10]).2] 68)).kept hg3 (lne HGL hg)
                have hgg : ∀ g, (Value.slice (some ⟨g3, 0, none⟩) (n + 1) c3).ownBlock = some g → g = w.heap.size ∨ w1.heap.size ≤ g := by
                  intro g he
                  injection he with he
                  simp only at he
                  subst he
                  rcases hat3 with h | h
                  · exact hg _ h
                  · right; rw [h]; simp; omega
                go_roundw
                case rel => exact ⟨k + 1, _, n + 1, c3, _, false, by omega, by omega, by go_num, rfl, rfl, ho3, hgg, by rw [HF.out, HST.out, pst, if_neg (by simp), if_neg (by rw [hop]; simp), if_neg (by rw [HLE.out]; simp)], by simp, by rw [HSm.out]; exact fits_snoc (fits_mono hft (by omega)) _ (by simp) (by simp), (hb.alloc hbs _).trans hb3, hll3, by have := hb3.size; simp at this; omega⟩
                case measure => simp [intOf]; omega
      · obtain rfl : k = n1 := by omega
        rw [List.take_of_length_le (by rw [HN.out]; omega)] at hst
        rw [hst] at HR
        simp only at HR
        have hfo : ∀ e ∈ out, e.1.length ≤ 1048576 ∧ e.2.length ≤ 1048576 := by intro e he; have := hft e he; have := HT.out; have := lsum_take (lns s) k; omega
        cases ins with
        | true =>
          have hr2 : pR s = none := by rw [HR.out, if_pos (.inl rfl)]
          have HR2 := Lib.hid hr2
          clear hr2 hst
          go_wp2_with fail
          go_ret2
          exact ⟨_, 0, 0, by rw [HR2.out]; rfl, by rw [HR2.out]; exact Own.new_ (n := 0) enc2_len wr [] _ rfl rfl (by unfold maxLen; omega) hbs rfl, by omega, hb.alloc hbs _⟩
        | false =>
          clear hst
          go_wp2_with fail
          refine (specIsReport_any A n c out _ (ho.reads enc2_len) (by omega) hfo).mono ?_
          rintro e w5 ⟨rfl, hb5⟩
          have hb05 := bth hb hb5
          cases hRo : repOK out with
          | false =>
            have hr2 : pR s = none := by rw [HR.out, if_pos (.inr hRo)]
            have HR2 := Lib.hid hr2
            clear hr2
            go_wp2_with fail
            go_ret2
            exact ⟨_, 0, 0, by rw [HR2.out]; rfl, by rw [HR2.out]; exact Own.new_ (n := 0) enc2_len w5 [] _ rfl rfl (by unfold maxLen; omega) hb05.size rfl, by omega, hb05.alloc hb05.size _⟩
          | true =>
            have hr2 : pR s = some out := by rw [HR.out, if_neg (by rw [hRo]; simp)]
            have HR2 := Lib.hid hr2
            clear hr2
            go_wp2_with fail
            go_ret2
            exact ⟨A, n, c, by rw [HR2.out]; rfl, by rw [HR2.out]; exact ho.below hb5, by omega, hb05⟩
end Go.Proofs.Ytecebamhenlnoaa
