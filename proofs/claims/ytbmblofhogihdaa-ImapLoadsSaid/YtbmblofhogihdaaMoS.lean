/- The blocks of a list of inodes. -/
import Derived.Test.YtbmblofhogihdaaMnW
namespace Go.Proofs.Ytbmblofhogihdaa
open Go.RowKit

def entP (L : List Ent) (q : Nat) : Nat × Nat := ((L[q]?).map fun e => (e.addr, e.ver)).getD (0, 0)
/-- The eight entries from i on. -/
def chk (L : List Ent) (i : Nat) : List (Nat × Nat) := (List.range 8).map fun k => entP L (i + k)
theorem chk_len (L : List Ent) (i : Nat) : (chk L i).length = 8 := by simp [chk]
theorem entP_out {L : List Ent} {q : Nat} (h : L.length ≤ q) : entP L q = (0, 0) := by
  unfold entP
  rw [List.getElem?_eq_none h]
  rfl
theorem entP_in {L : List Ent} {q : Nat} {e : Ent} (h : L[q]? = some e) : entP L q = (e.addr, e.ver) := by
  unfold entP
  rw [h]
  rfl
theorem rdF_chk {L : List Ent} {i k : Nat} (h : k = 8 ∨ L.length ≤ i + k) : rdF (fun k => entP L (i + k)) k = chk L i := by
  unfold rdF chk
  apply List.map_congr_left
  intro j hj
  have := List.mem_range.1 hj
  by_cases hk : j < k
  · rw [if_pos hk]
  · rw [if_neg hk, entP_out (by omega)]
theorem chk_bd {L : List Ent} (h : ∀ e ∈ L, e.addr < 4096 ∧ e.ver < 65536) (i : Nat) : (∀ e ∈ chk L i, e.1 < 4294967296 ∧ e.2 < 65536) ∧ (chk L i).all gdE = true := by
  have key : ∀ e ∈ chk L i, e.1 < 4096 ∧ e.2 < 65536 := fun e he => by
    obtain ⟨k, -, rfl⟩ := List.mem_map.1 he
    by_cases hq : i + k < L.length
    · rw [entP_in (List.getElem?_eq_getElem hq)]
      exact h _ (List.getElem_mem _)
    · rw [entP_out (by omega)]
      decide
  refine ⟨fun e he => ⟨by have := (key e he).1; omega, (key e he).2⟩, List.all_eq_true.2 (fun e he => ?_)⟩
  unfold gdE
  exact decide_eq_true (key e he).1
/-- The first k of its blocks. -/
def bkS (L : List Ent) (k : Nat) : List (List UInt8) := (List.range k).map fun j => mbS (chk L (8 * j))
theorem bkS_len (L : List Ent) (k : Nat) : (bkS L k).length = k := by simp [bkS]
theorem bkS_snoc (L : List Ent) (k : Nat) : bkS L (k + 1) = bkS L k ++ [mbS (chk L (8 * k))] := by
  unfold bkS
  rw [List.range_succ, List.map_append]
  rfl
def strV (l : List (List UInt8)) : List Value := l.map fun b => .string (txt b)
theorem strV_one (l : List (List UInt8)) : ∀ u ∈ strV l, u.oneCell' = true := by
  intro u hu
  obtain ⟨b, _, rfl⟩ := List.mem_map.1 hu
  rfl
theorem strV_len (l : List (List UInt8)) : (strV l).length = l.length := by simp [strV]
theorem strV_snoc (l : List (List UInt8)) (b : List UInt8) : strV (l ++ [b]) = strV l ++ strV [b] := by simp [strV]
theorem etyS : Ety Try.prog 65 9 (.string ⟨#[]⟩) 16 := Ety.mk' Try.underlying65 (by kernel_rfl) rfl (by omega)
theorem one_str (w : World) (b : List UInt8) : Sl (w.alloc (.cells #[.string (txt b)] 9)) (w.heap.size + 1) (some ⟨w.heap.size, 0, none⟩) 1 (strV [b]) := by
  refine ⟨rfl, fun i u hu => ⟨_, rfl, by simp, ?_⟩⟩
  rcases i with _ | i
  · have e : u = .string (txt b) := by injection hu with h; exact h.symm
    subst e
    simp [Addr.add]
  · exact absurd hu (by simp [strV])
end Go.Proofs.Ytbmblofhogihdaa
