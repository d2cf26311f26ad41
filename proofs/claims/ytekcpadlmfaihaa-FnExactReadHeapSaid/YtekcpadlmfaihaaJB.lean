/- Lines of a text; lines that open a chunk; texts that end with a line: what the functions of the program and of the reference return. Items and vectors as data; what their cells are. What markText returns, and that marking writes the marks. The law's own helpers for lists of texts: compare, mark, look for marks. The law's own helpers for lists of texts and of numbers: size, copy, compare. How much data there is: what the law's own functions sz.. count. Lists of texts and of numbers as owned data; the law's own to.. and eq.. over them. -/
import Derived.Test.YtekcpadlmfaihaaJA
import Derived.Laws.BytesArg
set_option linter.unusedSimpArgs false
set_option linter.unusedVariables false
namespace Go.Proofs.Ytekcpadlmfaihaa
open Go.RowKit
/-- The lines of a text, without their line feeds; what follows the last line feed is left out. -/
def lnsA : Str → Str → List Str
  | _, [] => []
  | cur, c :: t => if c.toNat = 10 then cur :: lnsA [] t else lnsA (cur ++ [c]) t
def lns (s : Str) : List Str := lnsA [] s
theorem lnsA_drop {s : Str} {k : Nat} (h : k < s.length) (cur : Str) : lnsA cur (s.drop k) = if s[k].toNat = 10 then cur :: lnsA [] (s.drop (k + 1)) else lnsA (cur ++ [s[k]]) (s.drop (k + 1)) := by
  rw [List.drop_eq_getElem_cons h, lnsA]
theorem lnsA_len (cur s : Str) : (lnsA cur s).length ≤ s.length := by
  induction s generalizing cur with
  | nil => simp [lnsA]
  | cons c t ih =>
    rw [lnsA]; split
    · have := ih []; simp; omega
    · have := ih (cur ++ [c]); simp; omega
theorem lns_len (s : Str) : (lns s).length ≤ s.length := lnsA_len [] s
theorem lnsA_sizes (cur s : Str) : ∀ l ∈ lnsA cur s, l.length ≤ cur.length + s.length := by
  induction s generalizing cur with
  | nil => simp [lnsA]
  | cons c t ih =>
    intro l hl
    rw [lnsA] at hl; split at hl
    · rcases List.mem_cons.1 hl with rfl | hl
      · omega
      · have := ih [] l hl; simp at this ⊢; omega
    · have := ih _ l hl; simp at this ⊢; omega
theorem lns_sizes (s : Str) : ∀ l ∈ lns s, l.length ≤ s.length := by
  intro l hl; have := lnsA_sizes [] s l hl; simpa using this
theorem strInfo : (Try.prog.info? 9).map (fun i => (i.zero, i.size, i.bytes)) = some (some (sv []), 1, 16) := by kernel_rfl
theorem tyStr : ElemTy Try.prog 24 9 1 16 := by
  obtain ⟨i0, hi0, hz0, hz1, hz2⟩ := info_parts strInfo
  exact ⟨i0, _, Try.underlying24, hi0, hz0, hz1, hz2, rfl, by omega⟩
abbrev OwnStr (w : World) (base : Nat) (A : Option Addr) (n c : Nat) (l : List Str) : Prop := Own encS 1 9 w base A n c l
theorem newsS (w : World) (x : Str) (t : TypeId) (b : Nat) (hb : w.heap.size = b) : ∀ j u, (encS x)[j]? = some u → (w.alloc (.cells #[sv x] t)).cell? ⟨b, 0 + j, none⟩ = some u := by
  intro j u hu
  subst hb
  rw [Nat.zero_add, (Blk.new_ w t _).cell]
  exact hu
/-- The text from place f up to place k. -/
def cut (s : Str) (f k : Nat) : Str := (s.drop f).take (k - f)
theorem cut_snoc {s : Str} {f k : Nat} (hf : f ≤ k) (hk : k < s.length) : cut s f k ++ [s[k]] = cut s f (k + 1) := by
  unfold cut
  rw [show k + 1 - f = (k - f) + 1 from by omega, List.take_succ_eq_append_getElem (by simp; omega)]
  simp [show f + (k - f) = k from by omega]
theorem cut_same (s : Str) (k : Nat) : cut s k k = [] := by simp [cut]
/-- A line that opens a chunk: its name, and whether it does. -/
def mid (s : Str) : Str := (s.drop 2).take (s.length - 3 - 2)
def opn (s : Str) : Str × Bool := if 6 ≤ s.length ∧ s.take 2 = [60, 60] ∧ s.drop (s.length - 3) = [62, 62, 61] then (mid s, isNm (mid s)) else ([], false)
/-- The name that a line (with its line feed) opens, or nothing. -/
def opnS (s : Str) : Str := if (opn s).2 then (opn s).1 else []
theorem isNm_ne {s : Str} (h : isNm s = true) : s ≠ [] := by
  rintro rfl; simp [isNm] at h
theorem opnS_ne (s : Str) : (!(opnS s == [])) = (opn s).2 := by
  unfold opnS
  cases h : (opn s).2 with
  | false => rfl
  | true =>
    unfold opn at h ⊢
    split at h
    · have := isNm_ne h
      rename_i hc
      rw [if_pos hc]
      simp [this]
    · cases h
end Go.Proofs.Ytekcpadlmfaihaa
namespace Go.Proofs.Ytekcpadlmfaihaa
open Go.RowKit
theorem repS (w : World) (B : Nat) (l : List Str) (cs : List Value) : rep w B (.sl (l.map .s)) cs ↔ ∃ (A : Option Addr) (n c : Nat), cs = [.slice A n c] ∧ n ≤ c ∧ c ≤ maxLen ∧ Reads encS 1 w B A n l ∧ ∀ x ∈ l, x.length ≤ maxLen :=
  rep_flat (fun x cs => by rw [rep]; rfl) encS_len l cs
theorem repI (w : World) (B : Nat) (l : List Int) (cs : List Value) : rep w B (.sl (l.map (.i .i64))) cs ↔ ∃ (A : Option Addr) (n c : Nat), cs = [.slice A n c] ∧ n ≤ c ∧ c ≤ maxLen ∧ Reads encI 1 w B A n l ∧ ∀ x ∈ l, (Lit.int .i64 x).wf = true :=
  rep_flat (fun x cs => by rw [rep]; rfl) encI_len l cs
theorem wf64 {n : Int} : (Lit.int .i64 n).wf = true ↔ -9223372036854775808 ≤ n ∧ n ≤ 9223372036854775807 := by
  simp [Lit.wf, IntKind.min, IntKind.max, IntKind.signed, IntKind.bits]
structure Item where
  num : Int
  den : Int
  text : Str
  deriving DecidableEq
def Item.toD (x : Item) : D := .st [.i .i64 x.num, .i .i64 x.den, .s x.text]
def encItem (x : Item) : List Value := [.int .i64 x.num, .int .i64 x.den, sv x.text]
theorem encItem_len (x : Item) : (encItem x).length = 3 := rfl
theorem encItem_one (x : Item) : ∀ u ∈ encItem x, u.oneCell' = true := by simp [encItem, Value.oneCell']
def itOK (x : Item) : Prop := (Lit.int .i64 x.num).wf = true ∧ (Lit.int .i64 x.den).wf = true ∧ x.text.length ≤ maxLen
theorem rep_item (w : World) (B : Nat) (x : Item) (cs : List Value) : rep w B x.toD cs ↔ cs = encItem x ∧ itOK x := by
  unfold Item.toD encItem itOK
  rw [rep]
  constructor
  · rintro ⟨css, rfl, h⟩
    rw [repL] at h
    obtain ⟨c0, css, rfl, k0, h⟩ := h
    rw [repL] at h
    obtain ⟨c1, css, rfl, k1, h⟩ := h
    rw [repL] at h
    obtain ⟨c2, css, rfl, k2, h⟩ := h
    rw [repL] at h
    subst h
    rw [rep] at k0
    rw [rep] at k1
    rw [rep] at k2
    rw [k0.1, k1.1, k2.1]
    exact ⟨rfl, k0.2, k1.2, k2.2⟩
  · rintro ⟨rfl, h0, h1, h2⟩
    exact ⟨[[.int .i64 x.num], [.int .i64 x.den], [sv x.text]], rfl, repL_cons.2 ⟨by rw [rep]; exact ⟨rfl, h0⟩, repL_cons.2 ⟨by rw [rep]; exact ⟨rfl, h1⟩, repL_cons.2 ⟨by rw [rep]; exact ⟨rfl, h2⟩, repL_nil⟩⟩⟩⟩
theorem repIt (w : World) (B : Nat) (l : List Item) (cs : List Value) : rep w B (.sl (l.map Item.toD)) cs ↔ ∃ (A : Option Addr) (n c : Nat), cs = [.slice A n c] ∧ n ≤ c ∧ c ≤ maxLen ∧ Reads encItem 3 w B A n l ∧ ∀ x ∈ l, itOK x :=
  rep_flat (rep_item w B) encItem_len l cs
theorem Reads.at3 {w : World} {B n k : Nat} {A : Option Addr} {l : List Item} (h : Reads encItem 3 w B A n l) (hk : k < n) :
    ∃ b off x, A = some ⟨b, off, none⟩ ∧ b < B ∧ l[k]? = some x ∧ w.cell? ⟨b, off + k * 3, none⟩ = some (.int .i64 x.num) ∧ w.cell? ⟨b, off + k * 3 + 1, none⟩ = some (.int .i64 x.den) ∧ w.cell? ⟨b, off + k * 3 + 2, none⟩ = some (sv x.text) := by
  obtain ⟨b, off, x, e, hb, hx, hc⟩ := h.at_ hk
  exact ⟨b, off, x, e, hb, hx, hc 0 _ rfl, hc 1 _ rfl, hc 2 _ rfl⟩
structure Vec where
  kind : Int
  items : List Item
  parts : List Vec
  names : List Str
  cls : List Str
  levels : List Str
  code : Int
  env : Int
mutual
def Vec.toD : Vec → D
  | ⟨k, i, p, n, c, l, cd, e⟩ => .st [.i .i64 k, .sl (i.map Item.toD), .sl (Vec.toDs p), .sl (n.map .s), .sl (c.map .s), .sl (l.map .s), .i .i64 cd, .i .i64 e]
def Vec.toDs : List Vec → List D
  | [] => []
  | v :: t => v.toD :: Vec.toDs t
end
theorem toDs_map (l : List Vec) : Vec.toDs l = l.map Vec.toD := by
  induction l with
  | nil => rw [Vec.toDs]; rfl
  | cons a t ih => rw [Vec.toDs, ih]; rfl
theorem toD_eq (v : Vec) : v.toD = .st [.i .i64 v.kind, .sl (v.items.map Item.toD), .sl (v.parts.map Vec.toD), .sl (v.names.map .s), .sl (v.cls.map .s), .sl (v.levels.map .s), .i .i64 v.code, .i .i64 v.env] := by
  cases v; rw [Vec.toD, toDs_map]
abbrev vc (v : Vec) (Ai : Option Addr) (ni ci : Nat) (Ap : Option Addr) (np cp : Nat) (An : Option Addr) (nn cn : Nat) (Ac : Option Addr) (nc cc : Nat) (Al : Option Addr) (nl cl : Nat) : List Value :=
  [.int .i64 v.kind, .slice Ai ni ci, .slice Ap np cp, .slice An nn cn, .slice Ac nc cc, .slice Al nl cl, .int .i64 v.code, .int .i64 v.env]
/-- What the slices of a vector hold. -/
structure VR (w : World) (B : Nat) (v : Vec) (Ai : Option Addr) (ni ci : Nat) (Ap : Option Addr) (np cp : Nat) (An : Option Addr) (nn cn : Nat) (Ac : Option Addr) (nc cc : Nat) (Al : Option Addr) (nl cl : Nat) : Prop where
  wk : (Lit.int .i64 v.kind).wf = true
  wc : (Lit.int .i64 v.code).wf = true
  we : (Lit.int .i64 v.env).wf = true
  it : Reads encItem 3 w B Ai ni v.items
  ito : ∀ x ∈ v.items, itOK x
  itb : ni ≤ ci ∧ ci ≤ maxLen
  pa : rep w B (.sl (v.parts.map Vec.toD)) [.slice Ap np cp]
  pab : np ≤ cp ∧ cp ≤ maxLen ∧ v.parts.length = np
  na : Reads encS 1 w B An nn v.names
  nao : ∀ x ∈ v.names, x.length ≤ maxLen
  nab : nn ≤ cn ∧ cn ≤ maxLen
  ca : Reads encS 1 w B Ac nc v.cls
  cao : ∀ x ∈ v.cls, x.length ≤ maxLen
  cab : nc ≤ cc ∧ cc ≤ maxLen
  la : Reads encS 1 w B Al nl v.levels
  lao : ∀ x ∈ v.levels, x.length ≤ maxLen
  lab : nl ≤ cl ∧ cl ≤ maxLen
theorem rep_sl_len {w : World} {B : Nat} {xs : List D} {A : Option Addr} {n c : Nat} (h : rep w B (.sl xs) [.slice A n c]) : xs.length = n ∧ n ≤ c ∧ c ≤ maxLen := by
  rw [rep] at h
  obtain ⟨A', n', c', s, rows, he, h1, h2, h3, h4⟩ := h
  injection he with he; injection he with e1 e2 e3; subst e1 e2 e3
  exact ⟨by rw [repL_len h4, List.length_map]; exact h3.len, h1, h2⟩
theorem rep_sl_val {w : World} {B : Nat} {xs : List D} {cs : List Value} (h : rep w B (.sl xs) cs) : ∃ A n c, cs = [.slice A n c] := by
  rw [rep] at h
  obtain ⟨A', n', c', s, rows, he, _⟩ := h
  exact ⟨_, _, _, he⟩
theorem sl_at {α : Type} {f : α → D} {w : World} {B : Nat} {l : List α} {A : Option Addr} {n c k : Nat} (h : rep w B (.sl (l.map f)) [.slice A n c]) (hk : k < n) :
    ∃ b off x cs, A = some ⟨b, off, none⟩ ∧ b < B ∧ l[k]? = some x ∧ rep w B (f x) cs ∧ ∀ j u, cs[j]? = some u → w.cell? ⟨b, off + k * cs.length + j, none⟩ = some u := by
  rw [rep] at h
  obtain ⟨A', n', c', s, rows, he, h1, h2, h3, h4⟩ := h
  injection he with he; injection he with e1 e2 e3; subst e1 e2 e3
  have hl := repL_len h4
  simp only [List.length_map] at hl
  have hlr := h3.len
  have hx : l[k]? = some (l[k]'(by omega)) := List.getElem?_eq_getElem (by omega)
  obtain ⟨b, off, r, e, hb, hr, hc⟩ := h3.at_ hk
  have hxr := repL_at h4 (k := k) (d := f (l[k]'(by omega))) (cs := r.v) (by simp [hx]) (by simp [hr])
  exact ⟨b, off, _, r.v, e, hb, hx, hxr, fun j u hu => by rw [Row.len]; exact hc j u hu⟩
theorem vec_open {w : World} {B : Nat} {v : Vec} {cs : List Value} (h : rep w B v.toD cs) :
    ∃ Ai ni ci Ap np cp An nn cn Ac nc cc Al nl cl, cs = vc v Ai ni ci Ap np cp An nn cn Ac nc cc Al nl cl ∧ VR w B v Ai ni ci Ap np cp An nn cn Ac nc cc Al nl cl := by
  rw [toD_eq, rep] at h
  obtain ⟨css, rfl, h⟩ := h
  rw [repL] at h
  obtain ⟨c0, css, rfl, k0, h⟩ := h
  rw [repL] at h
  obtain ⟨c1, css, rfl, k1, h⟩ := h
  rw [repL] at h
  obtain ⟨c2, css, rfl, k2, h⟩ := h
  rw [repL] at h
  obtain ⟨c3, css, rfl, k3, h⟩ := h
  rw [repL] at h
  obtain ⟨c4, css, rfl, k4, h⟩ := h
  rw [repL] at h
  obtain ⟨c5, css, rfl, k5, h⟩ := h
  rw [repL] at h
  obtain ⟨c6, css, rfl, k6, h⟩ := h
  rw [repL] at h
  obtain ⟨c7, css, rfl, k7, h⟩ := h
  rw [repL] at h
  subst h
  rw [rep] at k0
  rw [rep] at k6
  rw [rep] at k7
  obtain ⟨rfl, k0⟩ := k0
  obtain ⟨rfl, k6⟩ := k6
  obtain ⟨rfl, k7⟩ := k7
  obtain ⟨Ai, ni, ci, rfl, a1, a2, a3, a4⟩ := (repIt _ _ _ _).1 k1
  obtain ⟨Ap, np, cp, rfl⟩ := rep_sl_val k2
  obtain ⟨An, nn, cn, rfl, n1, n2, n3, n4⟩ := (repS _ _ _ _).1 k3
  obtain ⟨Ac, nc, cc, rfl, b1, b2, b3, b4⟩ := (repS _ _ _ _).1 k4
  obtain ⟨Al, nl, cl, rfl, l1, l2, l3, l4⟩ := (repS _ _ _ _).1 k5
  have hp := rep_sl_len k2
  exact ⟨Ai, ni, ci, Ap, np, cp, An, nn, cn, Ac, nc, cc, Al, nl, cl, rfl, k0, k6, k7, a3, a4, ⟨a1, a2⟩, k2, ⟨hp.2.1, hp.2.2, by simpa using hp.1⟩, n3, n4, ⟨n1, n2⟩, b3, b4, ⟨b1, b2⟩, l3, l4, ⟨l1, l2⟩⟩
theorem vec_shut {w : World} {B : Nat} {v : Vec} {Ai : Option Addr} {ni ci : Nat} {Ap : Option Addr} {np cp : Nat} {An : Option Addr} {nn cn : Nat} {Ac : Option Addr} {nc cc : Nat} {Al : Option Addr} {nl cl : Nat}
    (h : VR w B v Ai ni ci Ap np cp An nn cn Ac nc cc Al nl cl) : rep w B v.toD (vc v Ai ni ci Ap np cp An nn cn Ac nc cc Al nl cl) := by
  rw [toD_eq, rep]
  refine ⟨[[.int .i64 v.kind], [.slice Ai ni ci], [.slice Ap np cp], [.slice An nn cn], [.slice Ac nc cc], [.slice Al nl cl], [.int .i64 v.code], [.int .i64 v.env]], rfl, repL_cons.2 ⟨?_, repL_cons.2 ⟨?_, repL_cons.2 ⟨?_, repL_cons.2 ⟨?_, repL_cons.2 ⟨?_, repL_cons.2 ⟨?_, repL_cons.2 ⟨?_, repL_cons.2 ⟨?_, repL_nil⟩⟩⟩⟩⟩⟩⟩⟩⟩
  · rw [rep]; exact ⟨rfl, h.wk⟩
  · exact (repIt _ _ _ _).2 ⟨_, _, _, rfl, h.itb.1, h.itb.2, h.it, h.ito⟩
  · exact h.pa
  · exact (repS _ _ _ _).2 ⟨_, _, _, rfl, h.nab.1, h.nab.2, h.na, h.nao⟩
  · exact (repS _ _ _ _).2 ⟨_, _, _, rfl, h.cab.1, h.cab.2, h.ca, h.cao⟩
  · exact (repS _ _ _ _).2 ⟨_, _, _, rfl, h.lab.1, h.lab.2, h.la, h.lao⟩
  · rw [rep]; exact ⟨rfl, h.wc⟩
  · rw [rep]; exact ⟨rfl, h.we⟩
/-- The parts of a vector, one by one. -/
theorem parts_at {w : World} {B : Nat} {l : List Vec} {A : Option Addr} {n c k : Nat} (h : rep w B (.sl (l.map Vec.toD)) [.slice A n c]) (hk : k < n) :
    ∃ b off x Ai ni ci Ap np cp An nn cn Ac nc cc Al nl cl, A = some ⟨b, off, none⟩ ∧ b < B ∧ l[k]? = some x ∧ rep w B x.toD (vc x Ai ni ci Ap np cp An nn cn Ac nc cc Al nl cl) ∧ VR w B x Ai ni ci Ap np cp An nn cn Ac nc cc Al nl cl ∧
      w.cell? ⟨b, off + k * 8, none⟩ = some (.int .i64 x.kind) ∧ w.cell? ⟨b, off + k * 8 + 1, none⟩ = some (.slice Ai ni ci) ∧ w.cell? ⟨b, off + k * 8 + 2, none⟩ = some (.slice Ap np cp) ∧ w.cell? ⟨b, off + k * 8 + 3, none⟩ = some (.slice An nn cn) ∧
      w.cell? ⟨b, off + k * 8 + 4, none⟩ = some (.slice Ac nc cc) ∧ w.cell? ⟨b, off + k * 8 + 5, none⟩ = some (.slice Al nl cl) ∧ w.cell? ⟨b, off + k * 8 + 6, none⟩ = some (.int .i64 x.code) ∧ w.cell? ⟨b, off + k * 8 + 7, none⟩ = some (.int .i64 x.env) := by
  rw [rep] at h
  obtain ⟨A', n', c', s, rows, he, h1, h2, h3, h4⟩ := h
  injection he with he; injection he with e1 e2 e3; subst e1 e2 e3
  have hl := repL_len h4
  simp only [List.length_map] at hl
  have hlr := h3.len
  have hx : l[k]? = some (l[k]'(by omega)) := List.getElem?_eq_getElem (by omega)
  obtain ⟨b, off, r, e, hb, hr, hc⟩ := h3.at_ hk
  have hxr := repL_at h4 (k := k) (d := (l[k]'(by omega)).toD) (cs := r.v) (by simp [hx]) (by simp [hr])
  obtain ⟨Ai, ni, ci, Ap, np, cp, An, nn, cn, Ac, nc, cc, Al, nl, cl, hcs, hv⟩ := vec_open hxr
  have hs : s = 8 := by rw [← Row.len r, hcs]; rfl
  subst hs
  rw [hcs] at hc hxr
  exact ⟨b, off, _, Ai, ni, ci, Ap, np, cp, An, nn, cn, Ac, nc, cc, Al, nl, cl, e, hb, hx, hxr, hv, hc 0 _ rfl, hc 1 _ rfl, hc 2 _ rfl, hc 3 _ rfl, hc 4 _ rfl, hc 5 _ rfl, hc 6 _ rfl, hc 7 _ rfl⟩
end Go.Proofs.Ytekcpadlmfaihaa
namespace Go.Proofs.Ytekcpadlmfaihaa
open Go.RowKit
/-- string of a slice of one byte that was just built. -/
theorem run_conv1 {P : Program} (src dst e : TypeId) (hs : P.underlying src = some (.slice e)) (he : P.underlying e = some (.int .u8)) (hd : P.underlying dst = some .string) (W : World) (n : Int) :
    (convert src dst (.slice (some ⟨W.heap.size, 0, none⟩) 1 1)).run P (W.alloc (.cells #[.int .u8 n] e)) = .ok (sv [UInt8.ofNat n.toNat]) (W.alloc (.cells #[.int .u8 n] e)) := by
  rw [run_convert_bytes_string _ src dst e _ 1 1 hs he hd, run_bytesToString _ ⟨W.heap.size, 0, none⟩ 1 1 [n]]
  · rfl
  · have := run_loadCells_list (P := P) (w := W.alloc (.cells #[.int .u8 n] e)) ⟨W.heap.size, 0, none⟩ [.int .u8 n] (fun j v hj => by
      match j, hj with
      | 0, hj => simp at hj; subst hj; exact (Blk.new_ W e _).cell 0
      | j + 1, hj => simp at hj)
    simpa using this
def dgs : Nat → Nat → Str → Str
  | 0, _, s => s
  | f + 1, k, s => if k = 0 then s else dgs f (k / 10) ((48 + UInt8.ofNat (k % 10)) :: s)
theorem dgs_more (f g k : Nat) (s : Str) (h : k ≤ f) (h' : k ≤ g) : dgs f k s = dgs g k s := by
  induction f generalizing g k s with
  | zero =>
    have : k = 0 := by omega
    subst this
    cases g <;> simp [dgs]
  | succ f ih =>
    cases g with
    | zero =>
      have : k = 0 := by omega
      subst this; simp [dgs]
    | succ g =>
      rw [dgs, dgs]
      split
      · rfl
      · exact ih _ _ _ (by omega) (by omega)
theorem dgs_step (k : Nat) (s : Str) (h : 0 < k) : dgs k k s = dgs (k / 10) (k / 10) ((48 + UInt8.ofNat (k % 10)) :: s) := by
  obtain ⟨f, rfl⟩ : ∃ f, k = f + 1 := ⟨k - 1, by omega⟩
  rw [dgs, if_neg (by omega)]
  exact dgs_more _ _ _ _ (by omega) (by omega)
/-- The mark number k. -/
def mk (k : Nat) : Str := if k = 0 then [109, 48] else 109 :: dgs k k []
set_option maxHeartbeats 400000 in
theorem markText_nat (k : Nat) (w : World) (hk : (k : Int) ≤ 1152921504606846976) :
    Calls Try.prog 92 #[.int .i64 k] w fun e w' => e = .returned (sv (mk k)) ∧ Below w.heap.size w w' := by
  by_cases h0 : k ≤ 0
  · go_enter Try.func92, Try.ntmps92
    go_wp2
    go_ret
    exact ⟨ret_str (by rw [mk, if_pos (by omega)]), Below.refl _ _⟩
  · have hd : decide ((k : Int) ≤ 0) = false := by simp; omega
    have hcv := run_conv1 (P := Try.prog) 104 9 5 Try.underlying104 Try.underlying5 Try.underlying9
    go_enter Try.func92, Try.ntmps92
    go_wp2
    go_loopw [0, 3] (fun i v wr => ∃ (j : Nat) (s : Str), s.length + j ≤ k ∧ i = .int .i64 j ∧ v = sv s ∧ dgs k k [] = dgs j j s ∧ Below w.heap.size w wr) (fun i _ _ => (intOf i).toNat)
    case atStart => exact ⟨k, [], by simp, rfl, rfl, rfl, Below.refl _ _⟩
    case round =>
      obtain ⟨j, s, hj, rfl, rfl, hdg, hb⟩ := hrel
      have HD := Lib.hid hdg
      clear hdg
      by_cases hlt : 0 < j
      · go_wp2
        go_roundw
        case rel => exact ⟨j / 10, _, by simp; omega, by go_num, rfl, by rw [HD.out, dgs_step j s hlt], hb.alloc hb.size _⟩
        case measure => simp [intOf]; omega
      · obtain rfl : j = 0 := by omega
        go_wp2
        go_ret
        exact ⟨ret_str (by rw [mk, if_neg (by omega), HD.out]; rfl), hb⟩
theorem markText_any (z : Int) (w : World) (h0 : 0 ≤ z) (hz : z ≤ 1152921504606846976) :
    Calls Try.prog 92 #[.int .i64 z] w fun e w' => e = .returned (sv (mk z.toNat)) ∧ Below w.heap.size w w' := by
  obtain ⟨k, rfl⟩ := Int.eq_ofNat_of_zero_le h0
  exact markText_nat k w hz
theorem dgs_len : ∀ (f k : Nat) (s : Str), (dgs f k s).length ≤ f + s.length
  | 0, _, _ => by rw [dgs]; omega
  | f + 1, k, s => by
    rw [dgs]
    split
    · omega
    · have := dgs_len f (k / 10) ((48 + UInt8.ofNat (k % 10)) :: s)
      simp only [List.length_cons] at this
      omega
theorem mk_len (k : Nat) : (mk k).length ≤ k + 2 := by
  unfold mk
  split
  · simp
  · have := dgs_len k k []
    simp only [List.length_cons, List.length_nil] at this ⊢
    omega
/-- The marks that marking n pairs from k on writes. -/
def mks : Nat → Nat → List Pair
  | 0, _ => []
  | n + 1, k => (mk k, mk (k + 1)) :: mks n (k + 2)
theorem mks_len (n k : Nat) : (mks n k).length = n := by
  induction n generalizing k with
  | zero => rfl
  | succ n ih => simp [mks, ih]
theorem mks_at (n k i : Nat) (h : i < n) : (mks n k)[i]? = some (mk (k + 2 * i), mk (k + 2 * i + 1)) := by
  induction n generalizing k i with
  | zero => omega
  | succ n ih =>
    cases i with
    | zero => simp [mks]
    | succ i =>
      have := ih (k + 2) i (by omega)
      rw [show k + 2 + 2 * i = k + 2 * (i + 1) from by omega] at this
      simpa [mks] using this
end Go.Proofs.Ytekcpadlmfaihaa
namespace Go.Proofs.Ytekcpadlmfaihaa
open Go.RowKit
/-- The marks that marking n texts from k on writes. -/
def mksS : Nat → Nat → List Str
  | 0, _ => []
  | n + 1, k => mk k :: mksS n (k + 1)
theorem mksS_len (n k : Nat) : (mksS n k).length = n := by
  induction n generalizing k with
  | zero => rfl
  | succ n ih => simp [mksS, ih]
theorem mksS_at (n k i : Nat) (h : i < n) : (mksS n k)[i]? = some (mk (k + i)) := by
  induction n generalizing k i with
  | zero => omega
  | succ n ih =>
    cases i with
    | zero => simp [mksS]
    | succ i =>
      have := ih (k + 1) i (by omega)
      rw [show k + 1 + i = k + (i + 1) from by omega] at this
      simpa [mksS] using this
set_option maxHeartbeats 1000000 in
theorem eqStringS_any (A A' : Option Addr) (len len' cap cap' : Nat) (l l' : List Str) (w : World) (hr : Reads encS 1 w w.heap.size A len l) (hr' : Reads encS 1 w w.heap.size A' len' l') (hlen : len ≤ maxLen) (hlen' : len' ≤ maxLen) :
    Calls Try.prog 51 #[.slice A len cap, .slice A' len' cap'] w fun e w' => e = .returned (.bool (l == l')) ∧ Below w.heap.size w w' := by
  unfold maxLen at hlen hlen'
  by_cases hn : len = len'
  · subst hn
    have hd : ((len : Int) != (len : Int)) = false := by simp
    go_enter Try.func51, Try.ntmps51
    go_wp2
    go_loopw [5] (fun i wr => ∃ (k : Nat), k ≤ len ∧ i = .int .i64 k ∧ l.take k = l'.take k ∧ Below w.heap.size w wr) (fun i _ => len - (intOf i).toNat)
    case atStart => exact ⟨0, by omega, rfl, by simp, Below.refl _ _⟩
    case round =>
      obtain ⟨k, hk, rfl, hf, hb⟩ := hrel
      have HF := Lib.hid hf
      clear hf
      by_cases hlt : k < len
      · obtain ⟨b, off, x, rfl, hbl, hx, hc0⟩ := (hr.below hb).atS hlt
        obtain ⟨b', off', x', rfl, hbl', hx', hc0'⟩ := (hr'.below hb).atS hlt
        have HX := Lib.hid hx
        have HX' := Lib.hid hx'
        clear hx hx'
        have i1 : (0 : Int) ≤ (k : Int) := by omega
        have i2 : (k : Int) < (len : Int) := by omega
        go_wp2
        go_quiet (fail)
        go_wp2
        · go_ret
          have hq := of_bne (a := x) (b := x') (by assumption)
          exact ⟨ret_bool (ne_at HX.out HX'.out hq).symm, below_drewN hb _⟩
        · have hq := of_nbne (a := x) (b := x') (by assumption)
          go_roundw
          case rel => exact ⟨k + 1, by omega, by go_num, by rw [take_snoc' HX.out, take_snoc' HX'.out, HF.out, hq], below_drewN hb _⟩
          case measure => simp [intOf]; omega
      · obtain rfl : len = k := by omega
        go_wp2
        go_ret
        exact ⟨ret_bool (eq_of_takes HF.out hr.len hr'.len).symm, hb⟩
  · have hd : ((len : Int) != (len' : Int)) = true := by simp; omega
    go_enter Try.func51, Try.ntmps51
    go_wp2
    go_ret
    exact ⟨ret_bool (ne_of_len (by rw [hr.len, hr'.len]; exact hn)).symm, Below.refl _ _⟩
set_option maxHeartbeats 1000000 in
theorem markStringS_any (A : Option Addr) (n c k : Nat) (l : List Str) (w : World) (base : Nat) (ho : OwnStr w base A n c l) (hn : n ≤ 1048576) (hk : k ≤ 4194304) :
    Calls Try.prog 63 #[.slice A n c, .int .i64 k] w fun e w' => e = .returned (.int .i64 ((k : Int) + (n : Int))) ∧ OwnStr w' base A n c (mksS n k) ∧ w.grownBy w' (Value.slice A n c).ownBlock := by
  rcases ho.cases with ⟨rfl, rfl, rfl, rfl⟩ | ⟨g, rfl⟩
  · go_enter Try.func63, Try.ntmps63
    go_wp2
    go_loop [1, 5] (fun m i => m = .int .i64 k ∧ i = .int .i64 0) (fun _ _ => 0)
    case atStart => exact ⟨rfl, rfl⟩
    case round =>
      obtain ⟨rfl, rfl⟩ := hrel
      go_wp2
      go_ret
      exact ⟨ret_int (by omega), Own.nil_, only_refl _ _⟩
  · obtain ⟨hfz, hm⟩ := ho.fil
    rw [Nat.mul_one] at hfz
    have hlt0 := ho.lt
    have hcap := ho.cap
    simp only at hlt0
    go_enter Try.func63, Try.ntmps63
    go_wp2
    go_loopw [1, 5] (fun m i wr => ∃ (j : Nat), j ≤ n ∧ i = .int .i64 j ∧ m = .int .i64 ((k : Int) + (j : Int)) ∧ Fil wr g 9 c j (((mksS n k).take j).flatMap encS) ∧ w.grownBy wr (some g)) (fun _ i _ => n - (intOf i).toNat)
    case atStart => exact ⟨0, by omega, rfl, by go_num, by simpa using hfz, only_refl _ _⟩
    case round =>
      obtain ⟨j, hj, rfl, rfl, hf, hg⟩ := hrel
      by_cases hlt : j < n
      · have HA := Lib.hid (mksS_at n k j hlt)
        go_wp2_with fail
        refine (markText_any _ _ (by omega) (by omega)).mono ?_
        rintro e w1 ⟨rfl, hb1⟩
        have e1 : ((k : Int) + (j : Int)).toNat = k + j := by omega
        rw [e1]
        clear e1
        have hf1 := hf.next hb1
        obtain ⟨u0, hu0⟩ := hf1.cell j (by omega)
        have hz0 := hf1.frozen j
        go_wp2_with fail
        have hf2 := hf1.put (by omega) (sv (mk (k + j)))
        have hg2 := only_setCell (p := ⟨g, j, none⟩) (only_below hg hb1) (.inl rfl) (sv (mk (k + j)))
        go_roundw
        case rel => exact ⟨j + 1, by omega, by go_num, by go_num, by rw [take_snoc' HA.out, List.flatMap_append]; simpa [encS] using hf2, hg2⟩
        case measure => simp [intOf]; omega
      · obtain rfl : n = j := by omega
        rw [List.take_of_length_le (by rw [mksS_len]; omega)] at hf
        have hf' : Fil wr g 9 (c * 1) (n * 1) ((mksS n k).flatMap encS) := by simpa using hf
        go_wp2
        go_ret
        exact ⟨rfl, hf'.own encS_len (mksS_len _ _) hcap hm hlt0.1, hg⟩
set_option maxHeartbeats 1000000 in
theorem heldStringS_any (A : Option Addr) (n c k : Nat) (w : World) (hr : Reads encS 1 w w.heap.size A n (mksS n k)) (hn : n ≤ 1048576) (hk : k ≤ 4194304) :
    Calls Try.prog 69 #[.slice A n c, .int .i64 k] w fun e w' => e = .returned (.int .i64 ((k : Int) + (n : Int))) ∧ Below w.heap.size w w' := by
  go_enter Try.func69, Try.ntmps69
  go_wp2
  go_loopw [1, 5] (fun m i wr => ∃ (j : Nat), j ≤ n ∧ i = .int .i64 j ∧ m = .int .i64 ((k : Int) + (j : Int)) ∧ Below w.heap.size w wr) (fun _ i _ => n - (intOf i).toNat)
  case atStart => exact ⟨0, by omega, rfl, by go_num, Below.refl _ _⟩
  case round =>
    obtain ⟨j, hj, rfl, rfl, hb⟩ := hrel
    by_cases hlt : j < n
    · obtain ⟨b, off, x, rfl, hbl, hx, hc0⟩ := (hr.below hb).atS hlt
      rw [mksS_at n k j hlt] at hx
      injection hx with hx
      subst hx
      have hbw : b < wr.heap.size := by have := hb.size; omega
      have i1 : (0 : Int) ≤ (j : Int) := by omega
      have i2 : (j : Int) < (n : Int) := by omega
      go_wp2
      go_region_held3 (fun w' => w'.cell? ⟨b, off + j, none⟩ = some (sv (mk (k + j)))) (first | exact hc0 | exact (hb1.cell hbw).trans hc0)
          (first | (go_at_call 92; refine (markText_any _ _ (by omega) (by omega)).mono ?_; rintro e w1 ⟨rfl, hb1⟩))
      have e1 : ((k : Int) + (j : Int)).toNat = k + j := by omega
      rw [e1]
      clear e1
      go_wp2
      · exact absurd rfl (of_bne (a := mk (k + j)) (b := mk (k + j)) (by assumption))
      go_roundw
      case rel => exact ⟨j + 1, by omega, by go_num, by go_num, bth hb.drew hb1⟩
      case measure => simp [intOf]; omega
    · obtain rfl : n = j := by omega
      go_wp2
      go_ret
      exact ⟨rfl, hb⟩
end Go.Proofs.Ytekcpadlmfaihaa
namespace Go.Proofs.Ytekcpadlmfaihaa
open Go.RowKit
theorem neI {x y : Int} (h : (x != y) = true) : ¬ x = y := by simpa using h
theorem eqI {x y : Int} (h : (x != y) = false) : x = y := by simpa using h
def szT : List Str → Int → Int
  | [], n => n
  | e :: t, n => if n < e.length then -1 else szT t (n - e.length)
def szTs (l : List Str) (n : Int) : Int := if n < l.length then -1 else szT l (n - l.length)
theorem szT_drop (l : List Str) (k : Nat) (e : Str) (r : Int) (h : l[k]? = some e) : szT (l.drop k) r = if r < e.length then -1 else szT (l.drop (k + 1)) (r - e.length) := by
  obtain ⟨hk, he⟩ := List.getElem?_eq_some_iff.1 h
  rw [List.drop_eq_getElem_cons hk, he, szT]
theorem szT_sizes (l : List Str) (n : Int) (h : 0 ≤ szT l n) : (∀ e ∈ l, (e.length : Int) ≤ n) ∧ szT l n ≤ n := by
  induction l generalizing n with
  | nil => exact ⟨by simp, Int.le_refl _⟩
  | cons a t ih =>
    rw [szT] at h ⊢
    split at h
    · omega
    · rename_i hn
      rw [if_neg hn]
      have := ih _ h
      refine ⟨fun e he => ?_, by omega⟩
      rcases List.mem_cons.1 he with rfl | he
      · omega
      · have := this.1 e he; omega
theorem szTs_sizes {l : List Str} {n : Int} (h : 0 ≤ szTs l n) : (l.length : Int) ≤ n ∧ (∀ e ∈ l, (e.length : Int) ≤ n) ∧ szTs l n ≤ n := by
  unfold szTs at h ⊢
  split at h
  · omega
  · rename_i hn
    rw [if_neg hn]
    have := szT_sizes l _ h
    exact ⟨by omega, fun e he => by have := this.1 e he; omega, by omega⟩
set_option maxHeartbeats 1000000 in
theorem szStringS_any (A : Option Addr) (len cap : Nat) (l : List Str) (n : Int) (w : World) (hr : Reads encS 1 w w.heap.size A len l) (hs : ∀ e ∈ l, e.length ≤ maxLen) (hlen : len ≤ maxLen) (h0 : 0 ≤ n) (h1 : n ≤ 1048576) :
    Calls Try.prog 36 #[.slice A len cap, .int .i64 n] w fun e w' => e = .returned (.int .i64 (szTs l n)) ∧ w = w' := by
  unfold maxLen at hlen
  by_cases hn : n < len
  · go_enter Try.func36, Try.ntmps36
    go_wp2
    go_ret
    exact ⟨ret_int (by rw [szTs, hr.len, if_pos hn]), rfl⟩
  · have hd : decide (n - (len : Int) < 0) = false := by simp; omega
    go_enter Try.func36, Try.ntmps36
    go_wp2
    go_loop [1, 5] (fun m i => ∃ (k : Nat) (r : Int), k ≤ len ∧ i = .int .i64 k ∧ m = .int .i64 r ∧ 0 ≤ r ∧ r ≤ 1048576 ∧ szTs l n = szT (l.drop k) r) (fun _ i => len - (intOf i).toNat)
    case atStart => exact ⟨0, n - len, by omega, rfl, rfl, by omega, by omega, by rw [szTs, hr.len, if_neg (by omega)]; rfl⟩
    case round =>
      obtain ⟨k, r, hk, rfl, rfl, hr0, hr1, hsz⟩ := hrel
      have HS := Lib.hid hsz
      clear hsz
      by_cases hlt : k < len
      · obtain ⟨b, off, x, rfl, hbl, hx, hc0⟩ := hr.atS hlt
        have hm : x.length ≤ 9223372036854775807 := hs _ (List.mem_of_getElem? hx)
        have HD := Lib.hid (szT_drop l k _ r hx)
        clear hx
        by_cases hq : r < x.length
        · go_wp2
          go_ret
          exact ⟨ret_int (by rw [HS.out, HD.out, if_pos hq]), rfl⟩
        · go_wp2
          go_round
          case rel => exact ⟨k + 1, _, by omega, by go_num, rfl, by omega, by omega, by rw [HS.out, HD.out, if_neg hq]⟩
          case measure => simp [intOf]; omega
      · obtain rfl : len = k := by omega
        go_wp2
        go_ret
        exact ⟨ret_int (by rw [HS.out, List.drop_of_length_le (by rw [hr.len]; omega)]; rfl), rfl⟩
def szN (len : Nat) (n : Int) : Int := if n < len then -1 else n - len
theorem szIntS_any (A : Option Addr) (len cap : Nat) (n : Int) (w : World) (hlen : len ≤ maxLen) (h0 : 0 ≤ n) (h1 : n ≤ 1048576) :
    Calls Try.prog 37 #[.slice A len cap, .int .i64 n] w fun e w' => e = .returned (.int .i64 (szN len n)) ∧ w = w' := by
  unfold maxLen at hlen
  by_cases hn : n < len
  · go_enter Try.func37, Try.ntmps37
    go_wp2
    go_ret
    exact ⟨ret_int (by rw [szN, if_pos hn]), rfl⟩
  · go_enter Try.func37, Try.ntmps37
    go_wp2
    go_ret
    exact ⟨ret_int (by rw [szN, if_neg (by omega)]), rfl⟩
theorem intInfo : (Try.prog.info? 3).map (fun i => (i.zero, i.size, i.bytes)) = some (some (.int .i64 0), 1, 8) := by kernel_rfl
abbrev OwnInt (w : World) (base : Nat) (A : Option Addr) (n c : Nat) (l : List Int) : Prop := Own encI 1 3 w base A n c l
set_option maxHeartbeats 1000000 in
theorem toStringS_any (A : Option Addr) (len cap : Nat) (l : List Str) (w : World) (hr : Reads encS 1 w w.heap.size A len l) (hlen : len ≤ 1048576) :
    Calls Try.prog 43 #[.slice A len cap] w fun e w' => ∃ g, e = .returned (.slice (some ⟨g, 0, none⟩) len len) ∧ OwnStr w' w.heap.size (some ⟨g, 0, none⟩) len len l ∧ Below w.heap.size w w' := by
  obtain ⟨i0, hi0, hz0, hz1, hz2⟩ := info_parts strInfo
  have hmk := fun W => run_make_rowN (P := Try.prog) 24 9 i0 _ Try.underlying24 hi0 hz0 .i64 .i64 len len (Nat.le_refl _) (by rw [hz2]; omega) (by omega) W
  rw [hz1, Nat.mul_one] at hmk
  go_enter Try.func43, Try.ntmps43
  go_wp2
  clear hmk
  go_loopw [4] (fun i wr => ∃ (k : Nat), k ≤ len ∧ i = .int .i64 k ∧ Fil wr w.heap.size 9 len k ((l.take k).flatMap encS) ∧ Below w.heap.size w wr) (fun i _ => len - (intOf i).toNat)
  case atStart => exact ⟨0, by omega, rfl, by simpa using Fil.start w 9 (madeCells #[sv []] len) len (size_madeCells _ _), (Below.refl _ _).alloc (Nat.le_refl _) _⟩
  case round =>
    obtain ⟨k, hk, rfl, hf, hb⟩ := hrel
    by_cases hlt : k < len
    · obtain ⟨b, off, x, rfl, hbl, hx, hc0⟩ := (hr.below hb).atS hlt
      have HX := Lib.hid hx
      clear hx
      obtain ⟨u0, hu0⟩ := hf.cell k (by omega)
      have hz0 := hf.frozen k
      go_wp2
      have hf2 := hf.put (by omega) (sv x)
      go_roundw
      case rel => exact ⟨k + 1, by omega, by go_num, by rw [take_snoc' HX.out, List.flatMap_append]; simpa [encS] using hf2, hb.setCell (p := ⟨w.heap.size, k, none⟩) (Nat.le_refl _) _⟩
      case measure => simp [intOf]; omega
    · obtain rfl : len = k := by omega
      rw [List.take_of_length_le (by rw [hr.len]; omega)] at hf
      have hf' : Fil wr w.heap.size 9 (len * 1) (len * 1) (l.flatMap encS) := by simpa using hf
      go_wp2
      go_ret
      exact ⟨_, rfl, hf'.own encS_len hr.len (Nat.le_refl _) (by unfold maxLen; omega) (Nat.le_refl _), hb⟩
set_option maxHeartbeats 1000000 in
theorem toIntS_any (A : Option Addr) (len cap : Nat) (l : List Int) (w : World) (hr : Reads encI 1 w w.heap.size A len l) (hlen : len ≤ 1048576) :
    Calls Try.prog 44 #[.slice A len cap] w fun e w' => ∃ g, e = .returned (.slice (some ⟨g, 0, none⟩) len len) ∧ OwnInt w' w.heap.size (some ⟨g, 0, none⟩) len len l ∧ Below w.heap.size w w' := by
  obtain ⟨i0, hi0, hz0, hz1, hz2⟩ := info_parts intInfo
  have hmk := fun W => run_make_rowN (P := Try.prog) 41 3 i0 _ Try.underlying41 hi0 hz0 .i64 .i64 len len (Nat.le_refl _) (by rw [hz2]; omega) (by omega) W
  rw [hz1, Nat.mul_one] at hmk
  go_enter Try.func44, Try.ntmps44
  go_wp2
  clear hmk
  go_loopw [4] (fun i wr => ∃ (k : Nat), k ≤ len ∧ i = .int .i64 k ∧ Fil wr w.heap.size 3 len k ((l.take k).flatMap encI) ∧ Below w.heap.size w wr) (fun i _ => len - (intOf i).toNat)
  case atStart => exact ⟨0, by omega, rfl, by simpa using Fil.start w 3 (madeCells #[.int .i64 0] len) len (size_madeCells _ _), (Below.refl _ _).alloc (Nat.le_refl _) _⟩
  case round =>
    obtain ⟨k, hk, rfl, hf, hb⟩ := hrel
    by_cases hlt : k < len
    · obtain ⟨b, off, x, rfl, hbl, hx, hc0⟩ := (hr.below hb).atI hlt
      have HX := Lib.hid hx
      clear hx
      obtain ⟨u0, hu0⟩ := hf.cell k (by omega)
      have hz0 := hf.frozen k
      go_wp2
      have hf2 := hf.put (by omega) (.int .i64 x)
      go_roundw
      case rel => exact ⟨k + 1, by omega, by go_num, by rw [take_snoc' HX.out, List.flatMap_append]; simpa [encI] using hf2, hb.setCell (p := ⟨w.heap.size, k, none⟩) (Nat.le_refl _) _⟩
      case measure => simp [intOf]; omega
    · obtain rfl : len = k := by omega
      rw [List.take_of_length_le (by rw [hr.len]; omega)] at hf
      have hf' : Fil wr w.heap.size 3 (len * 1) (len * 1) (l.flatMap encI) := by simpa using hf
      go_wp2
      go_ret
      exact ⟨_, rfl, hf'.own encI_len hr.len (Nat.le_refl _) (by unfold maxLen; omega) (Nat.le_refl _), hb⟩
set_option maxHeartbeats 1000000 in
theorem eqIntS_any (A A' : Option Addr) (len len' cap cap' : Nat) (l l' : List Int) (w : World) (hr : Reads encI 1 w w.heap.size A len l) (hr' : Reads encI 1 w w.heap.size A' len' l') (hlen : len ≤ maxLen) (hlen' : len' ≤ maxLen) :
    Calls Try.prog 52 #[.slice A len cap, .slice A' len' cap'] w fun e w' => e = .returned (.bool (l == l')) ∧ Below w.heap.size w w' := by
  unfold maxLen at hlen hlen'
  by_cases hn : len = len'
  · subst hn
    have hd : ((len : Int) != (len : Int)) = false := by simp
    go_enter Try.func52, Try.ntmps52
    go_wp2
    go_loopw [5] (fun i wr => ∃ (k : Nat), k ≤ len ∧ i = .int .i64 k ∧ l.take k = l'.take k ∧ Below w.heap.size w wr) (fun i _ => len - (intOf i).toNat)
    case atStart => exact ⟨0, by omega, rfl, by simp, Below.refl _ _⟩
    case round =>
      obtain ⟨k, hk, rfl, hf, hb⟩ := hrel
      have HF := Lib.hid hf
      clear hf
      by_cases hlt : k < len
      · obtain ⟨b, off, x, rfl, hbl, hx, hc0⟩ := (hr.below hb).atI hlt
        obtain ⟨b', off', x', rfl, hbl', hx', hc0'⟩ := (hr'.below hb).atI hlt
        have HX := Lib.hid hx
        have HX' := Lib.hid hx'
        clear hx hx'
        have i1 : (0 : Int) ≤ (k : Int) := by omega
        have i2 : (k : Int) < (len : Int) := by omega
        go_wp2
        go_quiet (fail)
        go_wp2
        · go_ret
          have hq := neI (x := x) (y := x') (by assumption)
          exact ⟨ret_bool (ne_at HX.out HX'.out hq).symm, below_drewN hb _⟩
        · have hq := eqI (x := x) (y := x') (by assumption)
          go_roundw
          case rel => exact ⟨k + 1, by omega, by go_num, by rw [take_snoc' HX.out, take_snoc' HX'.out, HF.out, hq], below_drewN hb _⟩
          case measure => simp [intOf]; omega
      · obtain rfl : len = k := by omega
        go_wp2
        go_ret
        exact ⟨ret_bool (eq_of_takes HF.out hr.len hr'.len).symm, hb⟩
  · have hd : ((len : Int) != (len' : Int)) = true := by simp; omega
    go_enter Try.func52, Try.ntmps52
    go_wp2
    go_ret
    exact ⟨ret_bool (ne_of_len (by rw [hr.len, hr'.len]; exact hn)).symm, Below.refl _ _⟩
end Go.Proofs.Ytekcpadlmfaihaa
namespace Go.Proofs.Ytekcpadlmfaihaa
open Go.RowKit
mutual
def szD : D → Nat
  | .i _ _ => 0
  | .b _ => 0
  | .s x => x.length
  | .st fs => szDs fs
  | .sl xs => xs.length + szDs xs
def szDs : List D → Nat
  | [] => 0
  | x :: t => szD x + szDs t
end
/-- What is left of n. -/
def lft (s : Nat) (n : Int) : Int := if (s : Int) ≤ n then n - s else -1
theorem lft_bd (s : Nat) (n : Int) (h : 0 ≤ n) : -1 ≤ lft s n ∧ lft s n ≤ n ∧ (0 ≤ lft s n → (s : Int) ≤ n) := by unfold lft; split <;> omega
theorem lft_neg {s : Nat} {n : Int} (h : lft s n < 0) (h0 : 0 ≤ n) : lft s n = -1 := by unfold lft at h ⊢; split <;> omega
theorem szDs_app (l l' : List D) : szDs (l ++ l') = szDs l + szDs l' := by
  induction l with
  | nil => simp [szDs]
  | cons a t ih => simp only [List.cons_append, szDs, ih]; omega
theorem szDs_take {α : Type} {f : α → D} {l : List α} {k : Nat} {x : α} (h : l[k]? = some x) : szDs ((l.take (k + 1)).map f) = szDs ((l.take k).map f) + szD (f x) := by
  rw [take_snoc' h, List.map_append, szDs_app]; simp [szDs]
theorem szDs_le {α : Type} {f : α → D} (l : List α) (k : Nat) : szDs ((l.take k).map f) ≤ szDs (l.map f) := by
  have h : l.map f = (l.take k).map f ++ (l.drop k).map f := by rw [← List.map_append, List.take_append_drop]
  rw [h, szDs_app]; omega
theorem szDs_mem {x : D} : ∀ {l : List D}, x ∈ l → szD x ≤ szDs l
  | [], h => by simp at h
  | a :: t, h => by
    rw [szDs]
    rcases List.mem_cons.1 h with rfl | h
    · omega
    · have := szDs_mem h; omega
theorem lft_lft {a b : Nat} {n : Int} (h : (a : Int) ≤ n) : lft b (lft a n) = lft (a + b) n := by
  unfold lft
  rw [if_pos h]
  by_cases hb : (b : Int) ≤ n - a
  · rw [if_pos hb, if_pos (by omega)]; omega
  · rw [if_neg hb, if_neg (by omega)]
theorem lft_no {a b : Nat} {n : Int} (h : n < (a : Int)) : lft (a + b) n = -1 := by unfold lft; rw [if_neg (by omega)]
theorem lft_of {a : Nat} {n : Int} (h : (a : Int) ≤ n) : lft a n = n - a := by unfold lft; rw [if_pos h]
theorem szT_eq (l : List Str) (n : Int) (h : 0 ≤ n) : szT l n = lft (szDs (l.map .s)) n := by
  induction l generalizing n with
  | nil => simp [szT, szDs, lft, h]
  | cons a t ih =>
    rw [szT, List.map_cons, szDs, szD]
    split
    · rw [lft_no (by omega)]
    · rw [ih _ (by omega), ← lft_lft (a := a.length) (by omega), lft_of (a := a.length) (by omega)]
theorem szTs_eq (l : List Str) (n : Int) (h : 0 ≤ n) : szTs l n = lft (szD (.sl (l.map .s))) n := by
  rw [szTs, szD, List.length_map]
  split
  · rw [lft_no (by omega)]
  · rw [szT_eq _ _ (by omega), ← lft_lft (a := l.length) (by omega), lft_of (a := l.length) (by omega)]
theorem szDs_ints {α : Type} {f : α → D} (hf : ∀ x, szD (f x) = 0) (l : List α) : szDs (l.map f) = 0 := by
  induction l with
  | nil => rfl
  | cons a t ih => rw [List.map_cons, szDs, ih, hf]
theorem szN_eq (l : List Int) (n : Int) (h : 0 ≤ n) : szN l.length n = lft (szD (.sl (l.map (.i .i64)))) n := by
  rw [szN, szD, List.length_map, szDs_ints (fun _ => by rw [szD])]
  unfold lft
  split <;> split <;> omega
theorem szStringS_r (l : List Str) (A : Option Addr) (len cap : Nat) (n : Int) (w : World) (h : rep w w.heap.size (.sl (l.map .s)) [.slice A len cap]) (h0 : 0 ≤ n) (h1 : n ≤ 1048576) :
    Calls Try.prog 36 #[.slice A len cap, .int .i64 n] w fun e w' => e = .returned (.int .i64 (lft (szD (.sl (l.map .s))) n)) ∧ Below w.heap.size w w' := by
  obtain ⟨A', n', c', he, h2, h3, h4, h5⟩ := (repS _ _ _ _).1 h
  injection he with he; injection he with e1 e2 e3; subst e1 e2 e3
  rw [← szTs_eq l n h0]
  exact (szStringS_any A len cap l n w h4 h5 (by omega) h0 h1).mono fun _ _ ⟨a, b⟩ => ⟨a, b ▸ Below.refl _ _⟩
theorem szIntS_r (l : List Int) (A : Option Addr) (len cap : Nat) (n : Int) (w : World) (h : rep w w.heap.size (.sl (l.map (.i .i64))) [.slice A len cap]) (h0 : 0 ≤ n) (h1 : n ≤ 1048576) :
    Calls Try.prog 37 #[.slice A len cap, .int .i64 n] w fun e w' => e = .returned (.int .i64 (lft (szD (.sl (l.map (.i .i64)))) n)) ∧ Below w.heap.size w w' := by
  have h2 := rep_sl_len h
  rw [List.length_map] at h2
  rw [← szN_eq l n h0, h2.1]
  exact (szIntS_any A len cap n w (by omega) h0 h1).mono fun _ _ ⟨a, b⟩ => ⟨a, b ▸ Below.refl _ _⟩
end Go.Proofs.Ytekcpadlmfaihaa
namespace Go.Proofs.Ytekcpadlmfaihaa
open Go.RowKit
theorem row_flat {α : Type} {enc : α → List Value} {s : Nat} (henc : ∀ x, (enc x).length = s) (l : List α) : (l.map (fun x => (⟨enc x, henc x⟩ : Row s))).flatMap Row.v = l.flatMap enc := by
  induction l with
  | nil => rfl
  | cons a t ih => rw [List.map_cons, List.flatMap_cons, List.flatMap_cons, ih]
theorem ownA_mk {P : Program} {w : World} {α : Type} {f : α → D} {enc : α → List Value} {e : TypeId} : ∀ {l : List α}, (∀ x ∈ l, own P w (f x) e [] (enc x)) → ownA P w (l.map f) e [] (l.map enc)
  | [], _ => by rw [List.map_nil, ownA]; exact ⟨rfl, rfl⟩
  | x :: t, h => by rw [List.map_cons, List.map_cons, ownA]; exact ⟨[], [], _, _, rfl, rfl, h x List.mem_cons_self, ownA_mk fun y hy => h y (List.mem_cons_of_mem _ hy)⟩
theorem own_flat {P : Program} {w : World} {α : Type} {f : α → D} {enc : α → List Value} {s : Nat} {t e : TypeId} {base n c : Nat} {A : Option Addr} {l : List α} (henc : ∀ x, (enc x).length = s) (ht : P.underlying t = some (.slice e)) (hs : P.cellsOf e = s)
    (h : Own enc s e w base A n c l) (hc : c ≤ maxLen) (hf : ∀ x ∈ l, own P w (f x) e [] (enc x)) : own P w (.sl (l.map f)) t (ablk A) [.slice A n c] := by
  rw [own]
  refine ⟨e, A, n, c, s, l.map (fun x => ⟨enc x, henc x⟩), [], ht, hs, rfl, hc, ?_, by simp, ?_⟩
  · have h2 := h.mono (Nat.zero_le _)
    exact ⟨by simpa using h2.1, by rw [row_flat]; exact h2.2⟩
  · rw [List.map_map]
    exact ownA_mk hf
theorem ownA_of {P : Program} {w : World} {α : Type} {f : α → D} {enc : α → List Value} {e : TypeId} (hf : ∀ x F cs, own P w (f x) e F cs → F = [] ∧ cs = enc x) : ∀ {l : List α} {F : List Nat} {css : List (List Value)}, ownA P w (l.map f) e F css → F = [] ∧ css = l.map enc
  | [], F, css, h => by rw [List.map_nil, ownA] at h; exact h
  | x :: t, F, css, h => by
    rw [List.map_cons, ownA] at h
    obtain ⟨F1, F2, c1, c2, rfl, rfl, h1, h2⟩ := h
    obtain ⟨rfl, rfl⟩ := hf x F1 c1 h1
    obtain ⟨rfl, rfl⟩ := ownA_of hf h2
    exact ⟨rfl, rfl⟩
/-- An owned slice of flat data is a row of them. -/
theorem flat_own {P : Program} {w : World} {α : Type} {f : α → D} {enc : α → List Value} {s : Nat} {t e : TypeId} {n c : Nat} {A : Option Addr} {l : List α} {F : List Nat} (henc : ∀ x, (enc x).length = s) (ht : P.underlying t = some (.slice e)) (hs : P.cellsOf e = s)
    (hf : ∀ x F cs, own P w (f x) e F cs → F = [] ∧ cs = enc x) (h : own P w (.sl (l.map f)) t F [.slice A n c]) : F = ablk A ∧ Own enc s e w 0 A n c l ∧ c ≤ maxLen := by
  rw [own] at h
  obtain ⟨e', A', n', c', s', rows, F2, h1, h2, he, hm, h3, rfl, h4⟩ := h
  injection he with he; injection he with e1 e2 e3; subst e1 e2 e3
  rw [ht] at h1; injection h1 with h1; injection h1 with h1; subst h1
  rw [hs] at h2; subst h2
  obtain ⟨rfl, h5⟩ := ownA_of hf h4
  refine ⟨by simp, ⟨?_, ?_⟩, hm⟩
  · have := congrArg List.length h5; simp only [List.length_map] at this; rw [← this]; exact h3.1
  · have : rows.flatMap Row.v = l.flatMap enc := by rw [List.flatMap_def, h5, ← List.flatMap_def]
    rw [← this]; exact h3.2
theorem own_str {P : Program} {w : World} {e : TypeId} (x : Str) (F : List Nat) (cs : List Value) (h : own P w (.s x) e F cs) : F = [] ∧ cs = encS x := by rw [own] at h; exact ⟨h.1, h.2.1⟩
theorem own_int {P : Program} {w : World} {e : TypeId} (x : Int) (F : List Nat) (cs : List Value) (h : own P w (.i .i64 x) e F cs) : F = [] ∧ cs = encI x := by rw [own] at h; exact ⟨h.1, h.2.1⟩
theorem ownStr {w : World} {base n c : Nat} {A : Option Addr} {l : List Str} (h : OwnStr w base A n c l) (hc : c ≤ maxLen) (hl : ∀ x ∈ l, x.length ≤ maxLen) : own Try.prog w (.sl (l.map .s)) 24 (ablk A) [.slice A n c] :=
  own_flat encS_len Try.underlying24 (by kernel_rfl) h hc (fun x hx => by rw [own]; exact ⟨rfl, rfl, hl x hx⟩)
theorem strOwn {w : World} {n c : Nat} {A : Option Addr} {l : List Str} {F : List Nat} (h : own Try.prog w (.sl (l.map .s)) 24 F [.slice A n c]) : F = ablk A ∧ OwnStr w 0 A n c l ∧ c ≤ maxLen :=
  flat_own encS_len Try.underlying24 (by kernel_rfl) (fun x F cs h => own_str x F cs h) h
theorem ownInt {w : World} {base n c : Nat} {A : Option Addr} {l : List Int} (h : OwnInt w base A n c l) (hc : c ≤ maxLen) (hl : ∀ x ∈ l, (Lit.int .i64 x).wf = true) : own Try.prog w (.sl (l.map (.i .i64))) 41 (ablk A) [.slice A n c] :=
  own_flat encI_len Try.underlying41 (by kernel_rfl) h hc (fun x hx => by rw [own]; exact ⟨rfl, rfl, hl x hx⟩)
theorem intOwn {w : World} {n c : Nat} {A : Option Addr} {l : List Int} {F : List Nat} (h : own Try.prog w (.sl (l.map (.i .i64))) 41 F [.slice A n c]) : F = ablk A ∧ OwnInt w 0 A n c l ∧ c ≤ maxLen :=
  flat_own encI_len Try.underlying41 (by kernel_rfl) (fun x F cs h => own_int x F cs h) h
/-- What a function gives that makes a new slice. -/
def NewSl (xs : List D) (t : TypeId) (w : World) (e : Ending) (w' : World) : Prop :=
  ∃ (A : Option Addr) (n c : Nat) (F : List Nat), e = .returned (.slice A n c) ∧ own Try.prog w' (.sl xs) t F [.slice A n c] ∧ Fresh w.heap.size F ∧ Below w.heap.size w w'
def NewSt (d : D) (t : TypeId) (w : World) (e : Ending) (w' : World) : Prop :=
  ∃ (cs : List Value) (F : List Nat), e = .returned (.agg cs.toArray) ∧ own Try.prog w' d t F cs ∧ Fresh w.heap.size F ∧ Below w.heap.size w w'
theorem toStringS_r (l : List Str) (A : Option Addr) (len cap : Nat) (w : World) (h : rep w w.heap.size (.sl (l.map .s)) [.slice A len cap]) (hz : szD (.sl (l.map .s)) ≤ 1048576) :
    Calls Try.prog 43 #[.slice A len cap] w (NewSl (l.map .s) 24 w) := by
  obtain ⟨A', n', c', he, h2, h3, h4, h5⟩ := (repS _ _ _ _).1 h
  injection he with he; injection he with e1 e2 e3; subst e1 e2 e3
  rw [szD, List.length_map, h4.len] at hz
  refine (toStringS_any A len cap l w h4 (by omega)).mono fun e w' ⟨g, he, ho, hb⟩ => ⟨_, _, _, _, he, ownStr ho (by unfold maxLen; omega) h5, Fresh.one ?_, hb⟩
  intro x hx
  exact (ho.lt' x hx).1
theorem toIntS_r (l : List Int) (A : Option Addr) (len cap : Nat) (w : World) (h : rep w w.heap.size (.sl (l.map (.i .i64))) [.slice A len cap]) (hz : szD (.sl (l.map (.i .i64))) ≤ 1048576) :
    Calls Try.prog 44 #[.slice A len cap] w (NewSl (l.map (.i .i64)) 41 w) := by
  obtain ⟨A', n', c', he, h2, h3, h4, h5⟩ := (repI _ _ _ _).1 h
  injection he with he; injection he with e1 e2 e3; subst e1 e2 e3
  rw [szD, List.length_map, h4.len] at hz
  refine (toIntS_any A len cap l w h4 (by omega)).mono fun e w' ⟨g, he, ho, hb⟩ => ⟨_, _, _, _, he, ownInt ho (by unfold maxLen; omega) h5, Fresh.one ?_, hb⟩
  intro x hx
  exact (ho.lt' x hx).1
theorem eqStringS_r (l : List Str) (A A' : Option Addr) (n n' c c' : Nat) (w : World) (h : rep w w.heap.size (.sl (l.map .s)) [.slice A n c]) (h' : rep w w.heap.size (.sl (l.map .s)) [.slice A' n' c']) :
    Calls Try.prog 51 #[.slice A n c, .slice A' n' c'] w fun e w' => e = .returned (.bool true) ∧ Below w.heap.size w w' := by
  obtain ⟨A1, n1, c1, he, h2, h3, h4, h5⟩ := (repS _ _ _ _).1 h
  injection he with he; injection he with e1 e2 e3; subst e1 e2 e3
  obtain ⟨A1, n1, c1, he, k2, k3, k4, k5⟩ := (repS _ _ _ _).1 h'
  injection he with he; injection he with e1 e2 e3; subst e1 e2 e3
  have := eqStringS_any A A' n n' c c' l l w h4 k4 (by omega) (by omega)
  rwa [show (l == l) = true by simp] at this
theorem eqIntS_r (l : List Int) (A A' : Option Addr) (n n' c c' : Nat) (w : World) (h : rep w w.heap.size (.sl (l.map (.i .i64))) [.slice A n c]) (h' : rep w w.heap.size (.sl (l.map (.i .i64))) [.slice A' n' c']) :
    Calls Try.prog 52 #[.slice A n c, .slice A' n' c'] w fun e w' => e = .returned (.bool true) ∧ Below w.heap.size w w' := by
  obtain ⟨A1, n1, c1, he, h2, h3, h4, h5⟩ := (repI _ _ _ _).1 h
  injection he with he; injection he with e1 e2 e3; subst e1 e2 e3
  obtain ⟨A1, n1, c1, he, k2, k3, k4, k5⟩ := (repI _ _ _ _).1 h'
  injection he with he; injection he with e1 e2 e3; subst e1 e2 e3
  have := eqIntS_any A A' n n' c c' l l w h4 k4 (by omega) (by omega)
  rwa [show (l == l) = true by simp] at this
end Go.Proofs.Ytekcpadlmfaihaa
