/- The law FnExactFormatModel, walked out of the contracts of its callees; its argument opened. -/
import Derived.Test.YtecebamhenlnoaaFj
import Derived.Test.YtecebamhenlnoaaDop
namespace Go.Proofs.Ytecebamhenlnoaa
open Go.RowKit
theorem szF_bounds {r : Str} {vars : List Str} {terms : List Int} (h : 0 ≤ szF r vars terms 1048576) : vars.length ≤ 1048576 ∧ terms.length ≤ 1048576 := by
  unfold szF at h
  split at h
  · omega
  · split at h
    · omega
    · rename_i h1 h2
      have h3 := szTs_sizes (l := vars) (n := 1048576 - r.length) (by omega)
      split at h
      · omega
      · rename_i h4
        unfold szN at h4
        split at h4
        · omega
        · omega
set_option maxHeartbeats 1000000 in
theorem fnExactFormatModel_walk (r : Str) (ic : Bool) (A : Option Addr) (n c : Nat) (B : Option Addr) (m d : Nat) (vars : List Str) (terms : List Int) (s : Str) (w : World)
    (hv : Reads encS 1 w w.heap.size A n vars) (ht : Reads encI 1 w w.heap.size B m terms) (hr : r.length ≤ maxLen) (hvs : ∀ v ∈ vars, v.length ≤ maxLen) (hn : n ≤ maxLen) (hm : m ≤ maxLen) (hs : s.length ≤ maxLen) :
    Calls Try.prog 11 #[fval r ic A n c B m d, sv s] w fun e w' => e = .returned (.bool true) ∧ Below w.heap.size w w' := by
  have hs' : s.length ≤ 9223372036854775807 := hs
  have q1 := (Below.refl w.heap.size w).alloc (Nat.le_refl _) (.cells #[sv r, .bool ic, .slice A n c, .slice B m d] 59)
  by_cases hl : (1048576 : Int) < (s.length : Int)
  · go_enter Try.func11, Try.ntmps11
    go_wp2_with fail
    go_ret
    exact ⟨rfl, q1⟩
  have hl' : s.length ≤ 1048576 := by omega
  go_enter Try.func11, Try.ntmps11
  go_wp2_with fail
  refine (szFormula_any r ic A n c B m d vars terms _ _ (hv.next q1) (ht.next q1) hr hvs hn hm (by omega) (by omega)).mono ?_
  rintro e w1 ⟨rfl, hb1⟩
  have q2 := bth q1 hb1
  obtain ⟨hc1, _⟩ := bcell hb1
  simp only [wsize_alloc] at hc1
  have hz1 := hb1.size
  simp only [wsize_alloc] at hz1
  by_cases hsz : szF r vars terms 1048576 < 0
  · go_wp2_with fail
    go_ret
    exact ⟨rfl, q2⟩
  · have hbd := szF_bounds (r := r) (vars := vars) (terms := terms) (by omega)
    rw [hv.len, ht.len] at hbd
    go_wp2_with fail
    refine (toFormula_any r ic A n c B m d vars terms _ ((hv.below q2).more q2.size) ((ht.below q2).more q2.size) hbd.1 hbd.2).mono ?_
    rintro e w2 ⟨g2, k2, rfl, ho2, hp2, hb2⟩
    have q3 := bth q2 hb2
    have hz2 := hb2.size
    obtain ⟨hc2, _⟩ := bcell hb2
    have y1 : w.heap.size < w1.heap.size := by omega
    go_wp2_with fail
    refine (specFormatModel_any r ic _ n n _ m m vars terms s _ (ho2.reads encS_len) (hp2.reads encI_len) hr hvs hn hm hl').mono ?_
    rintro e w3 ⟨rfl, hb3⟩
    have q4 := bth q3 hb3
    have hz3 := hb3.size
    obtain ⟨hc3, _⟩ := bcell hb3
    have y2 : w.heap.size < w2.heap.size := by omega
    go_wp2_with fail
    refine (toFormula_any r ic A n c B m d vars terms _ ((hv.below q4).more q4.size) ((ht.below q4).more q4.size) hbd.1 hbd.2).mono ?_
    rintro e w4 ⟨g4, k4, rfl, ho4, hp4, hb4⟩
    have q5 := bth q4 hb4
    have hz4 := hb4.size
    obtain ⟨hc4, _⟩ := bcell hb4
    have y3 : w.heap.size < w3.heap.size := by omega
    go_wp2_with fail
    have hb5x := (Below.refl w4.heap.size w4).alloc (Nat.le_refl _) (.cells #[sv r, .bool ic, .slice (some ⟨g4, 0, none⟩) n n, .slice (some ⟨k4, 0, none⟩) m m] 62)
    have x0v := (ho4.reads encS_len).next hb5x
    have x0t := (hp4.reads encI_len).next hb5x
    refine (implFormatModel_any r ic _ n n _ m m vars terms s _ x0v x0t hr hvs hn hm hl').mono ?_
    rintro e w5 ⟨rfl, hb5⟩
    have q6 := bth (bth q5 hb5x) hb5
    have hz5 := hb5.size
    obtain ⟨hc5, _⟩ := bcell hb5
    simp only [wsize_alloc] at hc5 hz5
    have y4 : w.heap.size < w4.heap.size := by omega
    have hee : (fmtM r ic vars terms s == fmtM r ic vars terms s) = true := by simp
    have y5 : w.heap.size < w5.heap.size := by omega
    have y6 : w4.heap.size < w5.heap.size := by omega
    have y7 : w.heap.size < w4.heap.size + 1 := by omega
    have y8 : w.heap.size ≠ w4.heap.size := by omega
    go_wp2_with fail
    have kA := Blk.new_ w 59 #[sv r, .bool ic, .slice A n c, .slice B m d]
    have kA := ((((kA.below hb1 kA.lt).below hb2 (by omega)).below hb3 (by omega)).below hb4 (by omega)).below (bth hb5x hb5) (by omega)
    have kB := Blk.new_ w4 62 #[sv r, .bool ic, .slice (some ⟨g4, 0, none⟩) n n, .slice (some ⟨k4, 0, none⟩) m m]
    have kB := kB.below hb5 kB.lt
    have zA := kA.lt
    have zB := kB.lt
    have hv5 := (hv.below q6).more q6.size
    have ht5 := (ht.below q6).more q6.size
    have x1v := x0v.next hb5
    have x1t := x0t.next hb5
    clear hc1 hc2 hc3 hc4 hc5
    go_region_held3 (fun W => (W.cell? ⟨w.heap.size, 0, none⟩ = some (sv r) ∧ W.cell? ⟨w.heap.size, 1, none⟩ = some (.bool ic) ∧ W.cell? ⟨w.heap.size, 2, none⟩ = some (.slice A n c) ∧ W.cell? ⟨w.heap.size, 3, none⟩ = some (.slice B m d)) ∧ (W.cell? ⟨w4.heap.size, 0, none⟩ = some (sv r) ∧ W.cell? ⟨w4.heap.size, 1, none⟩ = some (.bool ic) ∧ W.cell? ⟨w4.heap.size, 2, none⟩ = some (.slice (some ⟨g4, 0, none⟩) n n) ∧ W.cell? ⟨w4.heap.size, 3, none⟩ = some (.slice (some ⟨k4, 0, none⟩) m m)))
      (first | exact ⟨kA.c4, kB.c4⟩ | exact ⟨(Blk.below (w := w5.drew) kA hb6 zA).c4, (Blk.below (w := w5.drew) kB hb6 zB).c4⟩ | exact ⟨((Blk.below (w := w5.drew) kA hb6 zA).next hb7).c4, ((Blk.below (w := w5.drew) kB hb6 zB).next hb7).c4⟩)
      (first | (go_at_call 45; refine (toFormula_any r ic A n c B m d vars terms _ (by exact hv5) (by exact ht5) hbd.1 hbd.2).mono ?_; rintro e w6 ⟨g6, k6, rfl, ho6, hp6, hb6⟩) | (go_at_call 47; refine (eqFormula_any r ic _ n n _ m m _ n _ m vars terms _ (Reads.next (w := w5.drew) x1v hb6) (Reads.next (w := w5.drew) x1t hb6) (ho6.reads encS_len) (hp6.reads encI_len) hn hm).mono ?_; rintro e w7 ⟨rfl, hb7⟩))
    go_wp2_with fail
    go_ret
    exact ⟨rfl, bth (bth q6.drew hb6) hb7⟩
theorem rep_strs (w : World) (B : Nat) (l : List Str) (cs : List Value) : rep w B (.sl (l.map .s)) cs ↔ ∃ (A : Option Addr) (n c : Nat), cs = [.slice A n c] ∧ n ≤ c ∧ c ≤ maxLen ∧ Reads encS 1 w B A n l ∧ ∀ x ∈ l, x.length ≤ maxLen :=
  rep_flat (fun x cs => by rw [rep]; rfl) encS_len l cs
theorem rep_ints (w : World) (B : Nat) (l : List Int) (cs : List Value) : rep w B (.sl (l.map (.i .i64))) cs ↔ ∃ (A : Option Addr) (n c : Nat), cs = [.slice A n c] ∧ n ≤ c ∧ c ≤ maxLen ∧ Reads encI 1 w B A n l ∧ ∀ x ∈ l, (Lit.int .i64 x).wf = true :=
  rep_flat (fun x cs => by rw [rep]; rfl) encI_len l cs
theorem open_formula {w : World} {B : Nat} {d : D} {t : TypeId} {cs : List Value} (h : shp Try.prog d t) (ht : t = 59) (hr : rep w B d cs) :
    ∃ (r : Str) (ic : Bool) (A : Option Addr) (n c : Nat) (A' : Option Addr) (m c' : Nat) (vars : List Str) (terms : List Int), cs = [sv r, .bool ic, .slice A n c, .slice A' m c'] ∧ Reads encS 1 w B A n vars ∧ Reads encI 1 w B A' m terms ∧ r.length ≤ maxLen ∧ (∀ v ∈ vars, v.length ≤ maxLen) ∧ n ≤ maxLen ∧ m ≤ maxLen := by
  subst ht
  obtain ⟨xs, rfl, g⟩ := shp_struct Try.underlying59 h
  clear h
  obtain ⟨x0, ys0, rfl, h0, g0⟩ := shpL_cons g
  obtain ⟨x1, ys1, rfl, h1, g1⟩ := shpL_cons g0
  obtain ⟨x2, ys2, rfl, h2, g2⟩ := shpL_cons g1
  obtain ⟨x3, ys3, rfl, h3, g3⟩ := shpL_cons g2
  obtain rfl := shpL_nil g3
  obtain ⟨r, rfl⟩ := shp_str Try.underlying9 h0
  obtain ⟨ic, rfl⟩ := shp_bool Try.underlying4 h1
  obtain ⟨l2, rfl, e2⟩ := shp_slice Try.underlying53 h2
  obtain ⟨vars, rfl⟩ := shpA_map (fun d => shp_str Try.underlying9) e2
  obtain ⟨l3, rfl, e3⟩ := shp_slice Try.underlying57 h3
  obtain ⟨terms, rfl⟩ := shpA_map (fun d => shp_int Try.underlying3) e3
  rw [rep] at hr
  obtain ⟨css, rfl, hr⟩ := hr
  rw [repL] at hr
  obtain ⟨c0, css, rfl, k0, hr⟩ := hr
  rw [repL] at hr
  obtain ⟨c1, css, rfl, k1, hr⟩ := hr
  rw [repL] at hr
  obtain ⟨c2, css, rfl, k2, hr⟩ := hr
  rw [repL] at hr
  obtain ⟨c3, css, rfl, k3, hr⟩ := hr
  rw [repL] at hr
  subst hr
  rw [rep] at k0
  rw [rep] at k1
  obtain ⟨A, n, c, rfl, hc1, hc2, hrd, hok⟩ := (rep_strs _ _ _ _).1 k2
  obtain ⟨A', m, c', rfl, hc1', hc2', hrd', _⟩ := (rep_ints _ _ _ _).1 k3
  obtain ⟨rfl, k0⟩ := k0
  subst k1
  exact ⟨r, ic, A, n, c, A', m, c', vars, terms, rfl, hrd, hrd', k0, hok, by omega, by omega⟩
end Go.Proofs.Ytecebamhenlnoaa
