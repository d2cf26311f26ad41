/- Items and vectors as data; what their cells are. -/
import Derived.Test.YtekcpadlmfaihaaOwn
import Derived.Test.YtekcpadlmfaihaaRb
namespace Go.Proofs.Ytekcpadlmfaihaa
open Go.RowKit
theorem repS (w : World) (B : Nat) (l : List Str) (cs : List Value) : rep w B (.sl (l.map .s)) cs ↔ ∃ (A : Option Addr) (n c : Nat), cs = [.slice A n c] ∧ n ≤ c ∧ c ≤ maxLen ∧ Reads encS 1 w B A n l ∧ ∀ x ∈ l, x.length ≤ maxLen :=
  rep_flat (fun x cs => by rw [rep]; rfl) encS_len l cs
theorem repI (w : World) (B : Nat) (l : List Int) (cs : List Value) : rep w B (.sl (l.map (.i .i64))) cs ↔ ∃ (A : Option Addr) (n c : Nat), cs = [.slice A n c] ∧ n ≤ c ∧ c ≤ maxLen ∧ Reads encI 1 w B A n l ∧ ∀ x ∈ l, (Lit.int .i64 x).wf = true :=
  rep_flat (fun x cs => by rw [rep]; rfl) encI_len l cs
theorem wf64 {n : Int} : (Lit.int .i64 n).wf = true ↔ -9223372036854775808 ≤ n ∧ n ≤ 9223372036854775807 := by
  simp [Lit.wf, IntKind.min, IntKind.max, IntKind.signed, IntKind.bits]
structure Item where
  num : Int
  den : Int
  text : Str
  deriving DecidableEq
def Item.toD (x : Item) : D := .st [.i .i64 x.num, .i .i64 x.den, .s x.text]
def encItem (x : Item) : List Value := [.int .i64 x.num, .int .i64 x.den, sv x.text]
theorem encItem_len (x : Item) : (encItem x).length = 3 := rfl
theorem encItem_one (x : Item) : ∀ u ∈ encItem x, u.oneCell' = true := by simp [encItem, Value.oneCell']
def itOK (x : Item) : Prop := (Lit.int .i64 x.num).wf = true ∧ (Lit.int .i64 x.den).wf = true ∧ x.text.length ≤ maxLen
theorem rep_item (w : World) (B : Nat) (x : Item) (cs : List Value) : rep w B x.toD cs ↔ cs = encItem x ∧ itOK x := by
  unfold Item.toD encItem itOK
  rw [rep]
  constructor
  · rintro ⟨css, rfl, h⟩
    rw [repL] at h
    obtain ⟨c0, css, rfl, k0, h⟩ := h
    rw [repL] at h
    obtain ⟨c1, css, rfl, k1, h⟩ := h
    rw [repL] at h
    obtain ⟨c2, css, rfl, k2, h⟩ := h
    rw [repL] at h
    subst h
    rw [rep] at k0
    rw [rep] at k1
    rw [rep] at k2
    rw [k0.1, k1.1, k2.1]
    exact ⟨rfl, k0.2, k1.2, k2.2⟩
  · rintro ⟨rfl, h0, h1, h2⟩
    exact ⟨[[.int .i64 x.num], [.int .i64 x.den], [sv x.text]], rfl, repL_cons.2 ⟨by rw [rep]; exact ⟨rfl, h0⟩, repL_cons.2 ⟨by rw [rep]; exact ⟨rfl, h1⟩, repL_cons.2 ⟨by rw [rep]; exact ⟨rfl, h2⟩, repL_nil⟩⟩⟩⟩
theorem repIt (w : World) (B : Nat) (l : List Item) (cs : List Value) : rep w B (.sl (l.map Item.toD)) cs ↔ ∃ (A : Option Addr) (n c : Nat), cs = [.slice A n c] ∧ n ≤ c ∧ c ≤ maxLen ∧ Reads encItem 3 w B A n l ∧ ∀ x ∈ l, itOK x :=
  rep_flat (rep_item w B) encItem_len l cs
theorem Reads.at3 {w : World} {B n k : Nat} {A : Option Addr} {l : List Item} (h : Reads encItem 3 w B A n l) (hk : k < n) :
    ∃ b off x, A = some ⟨b, off, none⟩ ∧ b < B ∧ l[k]? = some x ∧ w.cell? ⟨b, off + k * 3, none⟩ = some (.int .i64 x.num) ∧ w.cell? ⟨b, off + k * 3 + 1, none⟩ = some (.int .i64 x.den) ∧ w.cell? ⟨b, off + k * 3 + 2, none⟩ = some (sv x.text) := by
  obtain ⟨b, off, x, e, hb, hx, hc⟩ := h.at_ hk
  exact ⟨b, off, x, e, hb, hx, hc 0 _ rfl, hc 1 _ rfl, hc 2 _ rfl⟩
structure Vec where
  kind : Int
  items : List Item
  parts : List Vec
  names : List Str
  cls : List Str
  levels : List Str
  code : Int
  env : Int
mutual
def Vec.toD : Vec → D
  | ⟨k, i, p, n, c, l, cd, e⟩ => .st [.i .i64 k, .sl (i.map Item.toD), .sl (Vec.toDs p), .sl (n.map .s), .sl (c.map .s), .sl (l.map .s), .i .i64 cd, .i .i64 e]
def Vec.toDs : List Vec → List D
  | [] => []
  | v :: t => v.toD :: Vec.toDs t
end
theorem toDs_map (l : List Vec) : Vec.toDs l = l.map Vec.toD := by
  induction l with
  | nil => rw [Vec.toDs]; rfl
  | cons a t ih => rw [Vec.toDs, ih]; rfl
theorem toD_eq (v : Vec) : v.toD = .st [.i .i64 v.kind, .sl (v.items.map Item.toD), .sl (v.parts.map Vec.toD), .sl (v.names.map .s), .sl (v.cls.map .s), .sl (v.levels.map .s), .i .i64 v.code, .i .i64 v.env] := by
  cases v; rw [Vec.toD, toDs_map]
abbrev vc (v : Vec) (Ai : Option Addr) (ni ci : Nat) (Ap : Option Addr) (np cp : Nat) (An : Option Addr) (nn cn : Nat) (Ac : Option Addr) (nc cc : Nat) (Al : Option Addr) (nl cl : Nat) : List Value :=
  [.int .i64 v.kind, .slice Ai ni ci, .slice Ap np cp, .slice An nn cn, .slice Ac nc cc, .slice Al nl cl, .int .i64 v.code, .int .i64 v.env]
/-- What the slices of a vector hold. -/
structure VR (w : World) (B : Nat) (v : Vec) (Ai : Option Addr) (ni ci : Nat) (Ap : Option Addr) (np cp : Nat) (An : Option Addr) (nn cn : Nat) (Ac : Option Addr) (nc cc : Nat) (Al : Option Addr) (nl cl : Nat) : Prop where
  wk : (Lit.int .i64 v.kind).wf = true
  wc : (Lit.int .i64 v.code).wf = true
  we : (Lit.int .i64 v.env).wf = true
  it : Reads encItem 3 w B Ai ni v.items
  ito : ∀ x ∈ v.items, itOK x
  itb : ni ≤ ci ∧ ci ≤ maxLen
  pa : rep w B (.sl (v.parts.map Vec.toD)) [.slice Ap np cp]
  pab : np ≤ cp ∧ cp ≤ maxLen ∧ v.parts.length = np
  na : Reads encS 1 w B An nn v.names
  nao : ∀ x ∈ v.names, x.length ≤ maxLen
  nab : nn ≤ cn ∧ cn ≤ maxLen
  ca : Reads encS 1 w B Ac nc v.cls
  cao : ∀ x ∈ v.cls, x.length ≤ maxLen
  cab : nc ≤ cc ∧ cc ≤ maxLen
  la : Reads encS 1 w B Al nl v.levels
  lao : ∀ x ∈ v.levels, x.length ≤ maxLen
  lab : nl ≤ cl ∧ cl ≤ maxLen
theorem rep_sl_len {w : World} {B : Nat} {xs : List D} {A : Option Addr} {n c : Nat} (h : rep w B (.sl xs) [.slice A n c]) : xs.length = n ∧ n ≤ c ∧ c ≤ maxLen := by
  rw [rep] at h
  obtain ⟨A', n', c', s, rows, he, h1, h2, h3, h4⟩ := h
  injection he with he; injection he with e1 e2 e3; subst e1 e2 e3
  exact ⟨by rw [repL_len h4, List.length_map]; exact h3.len, h1, h2⟩
theorem rep_sl_val {w : World} {B : Nat} {xs : List D} {cs : List Value} (h : rep w B (.sl xs) cs) : ∃ A n c, cs = [.slice A n c] := by
  rw [rep] at h
  obtain ⟨A', n', c', s, rows, he, _⟩ := h
  exact ⟨_, _, _, he⟩
theorem sl_at {α : Type} {f : α → D} {w : World} {B : Nat} {l : List α} {A : Option Addr} {n c k : Nat} (h : rep w B (.sl (l.map f)) [.slice A n c]) (hk : k < n) :
    ∃ b off x cs, A = some ⟨b, off, none⟩ ∧ b < B ∧ l[k]? = some x ∧ rep w B (f x) cs ∧ ∀ j u, cs[j]? = some u → w.cell? ⟨b, off + k * cs.length + j, none⟩ = some u := by
  rw [rep] at h
  obtain ⟨A', n', c', s, rows, he, h1, h2, h3, h4⟩ := h
  injection he with he; injection he with e1 e2 e3; subst e1 e2 e3
  have hl := repL_len h4
  simp only [List.length_map] at hl
  have hlr := h3.len
  have hx : l[k]? = some (l[k]'(by omega)) := List.getElem?_eq_getElem (by omega)
  obtain ⟨b, off, r, e, hb, hr, hc⟩ := h3.at_ hk
  have hxr := repL_at h4 (k := k) (d := f (l[k]'(by omega))) (cs := r.v) (by simp [hx]) (by simp [hr])
  exact ⟨b, off, _, r.v, e, hb, hx, hxr, fun j u hu => by rw [Row.len]; exact hc j u hu⟩
theorem vec_open {w : World} {B : Nat} {v : Vec} {cs : List Value} (h : rep w B v.toD cs) :
    ∃ Ai ni ci Ap np cp An nn cn Ac nc cc Al nl cl, cs = vc v Ai ni ci Ap np cp An nn cn Ac nc cc Al nl cl ∧ VR w B v Ai ni ci Ap np cp An nn cn Ac nc cc Al nl cl := by
  rw [toD_eq, rep] at h
  obtain ⟨css, rfl, h⟩ := h
  rw [repL] at h
  obtain ⟨c0, css, rfl, k0, h⟩ := h
  rw [repL] at h
  obtain ⟨c1, css, rfl, k1, h⟩ := h
  rw [repL] at h
  obtain ⟨c2, css, rfl, k2, h⟩ := h
  rw [repL] at h
  obtain ⟨c3, css, rfl, k3, h⟩ := h
  rw [repL] at h
  obtain ⟨c4, css, rfl, k4, h⟩ := h
  rw [repL] at h
  obtain ⟨c5, css, rfl, k5, h⟩ := h
  rw [repL] at h
  obtain ⟨c6, css, rfl, k6, h⟩ := h
  rw [repL] at h
  obtain ⟨c7, css, rfl, k7, h⟩ := h
  rw [repL] at h
  subst h
  rw [rep] at k0
  rw [rep] at k6
  rw [rep] at k7
  obtain ⟨rfl, k0⟩ := k0
  obtain ⟨rfl, k6⟩ := k6
  obtain ⟨rfl, k7⟩ := k7
  obtain ⟨Ai, ni, ci, rfl, a1, a2, a3, a4⟩ := (repIt _ _ _ _).1 k1
  obtain ⟨Ap, np, cp, rfl⟩ := rep_sl_val k2
  obtain ⟨An, nn, cn, rfl, n1, n2, n3, n4⟩ := (repS _ _ _ _).1 k3
  obtain ⟨Ac, nc, cc, rfl, b1, b2, b3, b4⟩ := (repS _ _ _ _).1 k4
  obtain ⟨Al, nl, cl, rfl, l1, l2, l3, l4⟩ := (repS _ _ _ _).1 k5
  have hp := rep_sl_len k2
  exact ⟨Ai, ni, ci, Ap, np, cp, An, nn, cn, Ac, nc, cc, Al, nl, cl, rfl, k0, k6, k7, a3, a4, ⟨a1, a2⟩, k2, ⟨hp.2.1, hp.2.2, by simpa using hp.1⟩, n3, n4, ⟨n1, n2⟩, b3, b4, ⟨b1, b2⟩, l3, l4, ⟨l1, l2⟩⟩
theorem vec_shut {w : World} {B : Nat} {v : Vec} {Ai : Option Addr} {ni ci : Nat} {Ap : Option Addr} {np cp : Nat} {An : Option Addr} {nn cn : Nat} {Ac : Option Addr} {nc cc : Nat} {Al : Option Addr} {nl cl : Nat}
    (h : VR w B v Ai ni ci Ap np cp An nn cn Ac nc cc Al nl cl) : rep w B v.toD (vc v Ai ni ci Ap np cp An nn cn Ac nc cc Al nl cl) := by
  rw [toD_eq, rep]
  refine ⟨[[.int .i64 v.kind], [.slice Ai ni ci], [.slice Ap np cp], [.slice An nn cn], [.slice Ac nc cc], [.slice Al nl cl], [.int .i64 v.code], [.int .i64 v.env]], rfl, repL_cons.2 ⟨?_, repL_cons.2 ⟨?_, repL_cons.2 ⟨?_, repL_cons.2 ⟨?_, repL_cons.2 ⟨?_, repL_cons.2 ⟨?_, repL_cons.2 ⟨?_, repL_cons.2 ⟨?_, repL_nil⟩⟩⟩⟩⟩⟩⟩⟩⟩
  · rw [rep]; exact ⟨rfl, h.wk⟩
  · exact (repIt _ _ _ _).2 ⟨_, _, _, rfl, h.itb.1, h.itb.2, h.it, h.ito⟩
  · exact h.pa
  · exact (repS _ _ _ _).2 ⟨_, _, _, rfl, h.nab.1, h.nab.2, h.na, h.nao⟩
  · exact (repS _ _ _ _).2 ⟨_, _, _, rfl, h.cab.1, h.cab.2, h.ca, h.cao⟩
  · exact (repS _ _ _ _).2 ⟨_, _, _, rfl, h.lab.1, h.lab.2, h.la, h.lao⟩
  · rw [rep]; exact ⟨rfl, h.wc⟩
  · rw [rep]; exact ⟨rfl, h.we⟩
/-- The parts of a vector, one by one. -/
theorem parts_at {w : World} {B : Nat} {l : List Vec} {A : Option Addr} {n c k : Nat} (h : rep w B (.sl (l.map Vec.toD)) [.slice A n c]) (hk : k < n) :
    ∃ b off x Ai ni ci Ap np cp An nn cn Ac nc cc Al nl cl, A = some ⟨b, off, none⟩ ∧ b < B ∧ l[k]? = some x ∧ rep w B x.toD (vc x Ai ni ci Ap np cp An nn cn Ac nc cc Al nl cl) ∧ VR w B x Ai ni ci Ap np cp An nn cn Ac nc cc Al nl cl ∧
      w.cell? ⟨b, off + k * 8, none⟩ = some (.int .i64 x.kind) ∧ w.cell? ⟨b, off + k * 8 + 1, none⟩ = some (.slice Ai ni ci) ∧ w.cell? ⟨b, off + k * 8 + 2, none⟩ = some (.slice Ap np cp) ∧ w.cell? ⟨b, off + k * 8 + 3, none⟩ = some (.slice An nn cn) ∧
      w.cell? ⟨b, off + k * 8 + 4, none⟩ = some (.slice Ac nc cc) ∧ w.cell? ⟨b, off + k * 8 + 5, none⟩ = some (.slice Al nl cl) ∧ w.cell? ⟨b, off + k * 8 + 6, none⟩ = some (.int .i64 x.code) ∧ w.cell? ⟨b, off + k * 8 + 7, none⟩ = some (.int .i64 x.env) := by
  rw [rep] at h
  obtain ⟨A', n', c', s, rows, he, h1, h2, h3, h4⟩ := h
  injection he with he; injection he with e1 e2 e3; subst e1 e2 e3
  have hl := repL_len h4
  simp only [List.length_map] at hl
  have hlr := h3.len
  have hx : l[k]? = some (l[k]'(by omega)) := List.getElem?_eq_getElem (by omega)
  obtain ⟨b, off, r, e, hb, hr, hc⟩ := h3.at_ hk
  have hxr := repL_at h4 (k := k) (d := (l[k]'(by omega)).toD) (cs := r.v) (by simp [hx]) (by simp [hr])
  obtain ⟨Ai, ni, ci, Ap, np, cp, An, nn, cn, Ac, nc, cc, Al, nl, cl, hcs, hv⟩ := vec_open hxr
  have hs : s = 8 := by rw [← Row.len r, hcs]; rfl
  subst hs
  rw [hcs] at hc hxr
  exact ⟨b, off, _, Ai, ni, ci, Ap, np, cp, An, nn, cn, Ac, nc, cc, Al, nl, cl, e, hb, hx, hxr, hv, hc 0 _ rfl, hc 1 _ rfl, hc 2 _ rfl, hc 3 _ rfl, hc 4 _ rfl, hc 5 _ rfl, hc 6 _ rfl, hc 7 _ rfl⟩
end Go.Proofs.Ytekcpadlmfaihaa
