/- Lines of a text; lines that open a chunk; texts that end with a line: what the functions of the program and of the reference return. -/
import Derived.Test.YtekcpadlmfaihaaRa
namespace Go.Proofs.Ytekcpadlmfaihaa
open Go.RowKit
/-- The lines of a text, without their line feeds; what follows the last line feed is left out. -/
def lnsA : Str → Str → List Str
  | _, [] => []
  | cur, c :: t => if c.toNat = 10 then cur :: lnsA [] t else lnsA (cur ++ [c]) t
def lns (s : Str) : List Str := lnsA [] s
theorem lnsA_drop {s : Str} {k : Nat} (h : k < s.length) (cur : Str) : lnsA cur (s.drop k) = if s[k].toNat = 10 then cur :: lnsA [] (s.drop (k + 1)) else lnsA (cur ++ [s[k]]) (s.drop (k + 1)) := by
  rw [List.drop_eq_getElem_cons h, lnsA]
theorem lnsA_len (cur s : Str) : (lnsA cur s).length ≤ s.length := by
  induction s generalizing cur with
  | nil => simp [lnsA]
  | cons c t ih =>
    rw [lnsA]; split
    · have := ih []; simp; omega
    · have := ih (cur ++ [c]); simp; omega
theorem lns_len (s : Str) : (lns s).length ≤ s.length := lnsA_len [] s
theorem lnsA_sizes (cur s : Str) : ∀ l ∈ lnsA cur s, l.length ≤ cur.length + s.length := by
  induction s generalizing cur with
  | nil => simp [lnsA]
  | cons c t ih =>
    intro l hl
    rw [lnsA] at hl; split at hl
    · rcases List.mem_cons.1 hl with rfl | hl
      · omega
      · have := ih [] l hl; simp at this ⊢; omega
    · have := ih _ l hl; simp at this ⊢; omega
theorem lns_sizes (s : Str) : ∀ l ∈ lns s, l.length ≤ s.length := by
  intro l hl; have := lnsA_sizes [] s l hl; simpa using this
theorem strInfo : (Try.prog.info? 9).map (fun i => (i.zero, i.size, i.bytes)) = some (some (sv []), 1, 16) := by kernel_rfl
theorem tyStr : ElemTy Try.prog 24 9 1 16 := by
  obtain ⟨i0, hi0, hz0, hz1, hz2⟩ := info_parts strInfo
  exact ⟨i0, _, Try.underlying24, hi0, hz0, hz1, hz2, rfl, by omega⟩
abbrev OwnStr (w : World) (base : Nat) (A : Option Addr) (n c : Nat) (l : List Str) : Prop := Own encS 1 9 w base A n c l
theorem newsS (w : World) (x : Str) (t : TypeId) (b : Nat) (hb : w.heap.size = b) : ∀ j u, (encS x)[j]? = some u → (w.alloc (.cells #[sv x] t)).cell? ⟨b, 0 + j, none⟩ = some u := by
  intro j u hu
  subst hb
  rw [Nat.zero_add, (Blk.new_ w t _).cell]
  exact hu
/-- The text from place f up to place k. -/
def cut (s : Str) (f k : Nat) : Str := (s.drop f).take (k - f)
theorem cut_snoc {s : Str} {f k : Nat} (hf : f ≤ k) (hk : k < s.length) : cut s f k ++ [s[k]] = cut s f (k + 1) := by
  unfold cut
  rw [show k + 1 - f = (k - f) + 1 from by omega, List.take_succ_eq_append_getElem (by simp; omega)]
  simp [show f + (k - f) = k from by omega]
theorem cut_same (s : Str) (k : Nat) : cut s k k = [] := by simp [cut]
/-- A line that opens a chunk: its name, and whether it does. -/
def mid (s : Str) : Str := (s.drop 2).take (s.length - 3 - 2)
def opn (s : Str) : Str × Bool := if 6 ≤ s.length ∧ s.take 2 = [60, 60] ∧ s.drop (s.length - 3) = [62, 62, 61] then (mid s, isNm (mid s)) else ([], false)
/-- The name that a line (with its line feed) opens, or nothing. -/
def opnS (s : Str) : Str := if (opn s).2 then (opn s).1 else []
theorem isNm_ne {s : Str} (h : isNm s = true) : s ≠ [] := by
  rintro rfl; simp [isNm] at h
theorem opnS_ne (s : Str) : (!(opnS s == [])) = (opn s).2 := by
  unfold opnS
  cases h : (opn s).2 with
  | false => rfl
  | true =>
    unfold opn at h ⊢
    split at h
    · have := isNm_ne h
      rename_i hc
      rw [if_pos hc]
      simp [this]
    · cases h
end Go.Proofs.Ytekcpadlmfaihaa
