/- Blocks of an inode map's entries, in plain lists. No program in sight. -/
import Derived.Test.YtbmblofhogihdaaFlat
import Derived.Test.YtbmblofhogihdaaMem
namespace Go.Proofs.Ytbmblofhogihdaa
open Go.RowKit

/-- An entry that can stand in a block. -/
def gdE (e : Nat × Nat) : Bool := decide (e.1 < 4096)
/-- Its bytes. -/
def eb8 (e : Nat × Nat) : List UInt8 := [UInt8.ofNat e.1, UInt8.ofNat (e.1 / 256), UInt8.ofNat (e.1 / 65536), UInt8.ofNat (e.1 / 16777216), UInt8.ofNat e.2, UInt8.ofNat (e.2 / 256), 0, 0]
theorem eb8_len (e : Nat × Nat) : (eb8 e).length = 8 := rfl
def mbS : List (Nat × Nat) → List UInt8
  | [] => []
  | e :: l => eb8 e ++ mbS l
theorem mbS_len : ∀ l : List (Nat × Nat), (mbS l).length = 8 * l.length
  | [] => rfl
  | e :: l => by rw [mbS, List.length_append, eb8_len, mbS_len l, List.length_cons]; omega
theorem mbS_snoc : ∀ (l : List (Nat × Nat)) (e : Nat × Nat), mbS (l ++ [e]) = mbS l ++ eb8 e
  | [], e => by simp [mbS]
  | x :: l, e => by rw [List.cons_append, mbS, mbS_snoc l e, mbS, List.append_assoc]
theorem w8_nat (n : Nat) : IntKind.u8.wrap (n : Int) = (((UInt8.ofNat n).toNat : Nat) : Int) := by
  rw [UInt8.toNat_ofNat']
  simp [IntKind.wrap, IntKind.bits, IntKind.signed]
theorem w8_quo (n k : Nat) : IntKind.u8.wrap ((n : Int) / (k : Int)) = (((UInt8.ofNat (n / k)).toNat : Nat) : Int) := by
  rw [← Int.natCast_ediv]
  exact w8_nat _
/-- The entries of 64 bytes; of a block just one list is. -/
def nb (b : List UInt8) (i : Nat) : Nat := (b.getD i 0).toNat
def rdE (b : List UInt8) (i : Nat) : Nat × Nat := (nb b (8 * i) + 256 * nb b (8 * i + 1), nb b (8 * i + 4) + 256 * nb b (8 * i + 5))
def rdE4 (b : List UInt8) (i : Nat) : Nat × Nat := (nb b (8 * i) + 256 * nb b (8 * i + 1) + 65536 * nb b (8 * i + 2) + 16777216 * nb b (8 * i + 3), nb b (8 * i + 4) + 256 * nb b (8 * i + 5))
def rdL (b : List UInt8) : List (Nat × Nat) := (List.range 8).map (rdE b)
def rdL4 (b : List UInt8) : List (Nat × Nat) := (List.range 8).map (rdE4 b)
theorem nb_lt (b : List UInt8) (i : Nat) : nb b i < 256 := (b.getD i 0).toNat_lt
theorem rdL_len (b : List UInt8) : (rdL b).length = 8 := by simp [rdL]
theorem rdL4_len (b : List UInt8) : (rdL4 b).length = 8 := by simp [rdL4]
/-- Is it a block of entries? -/
def isM (b : List UInt8) : Bool := decide (b.length = 64 ∧ (rdL b).all gdE = true ∧ mbS (rdL b) = b)
theorem eb8_at (e : Nat × Nat) (h : e.1 < 4294967296 ∧ e.2 < 65536) :
    (eb8 e).getD 0 0 = UInt8.ofNat e.1 ∧ nb (eb8 e) 0 + 256 * nb (eb8 e) 1 + 65536 * nb (eb8 e) 2 + 16777216 * nb (eb8 e) 3 = e.1 ∧ nb (eb8 e) 4 + 256 * nb (eb8 e) 5 = e.2 := by
  refine ⟨rfl, ?_, ?_⟩
  · unfold nb eb8
    simp
    omega
  · unfold nb eb8
    simp
    omega
theorem mbS_get : ∀ (l : List (Nat × Nat)) (i k : Nat) (e : Nat × Nat), l[i]? = some e → k < 8 → (mbS l).getD (8 * i + k) 0 = (eb8 e).getD k 0
  | [], i, k, e, h, _ => by simp at h
  | x :: l, 0, k, e, h, hk => by
    simp only [List.getElem?_cons_zero, Option.some.injEq] at h
    subst h
    rw [mbS, Nat.mul_zero, Nat.zero_add, List.getD_eq_getElem?_getD, List.getElem?_append_left (by rw [eb8_len]; exact hk), ← List.getD_eq_getElem?_getD]
  | x :: l, i + 1, k, e, h, hk => by
    simp only [List.getElem?_cons_succ] at h
    rw [mbS, List.getD_eq_getElem?_getD, List.getElem?_append_right (by rw [eb8_len]; omega), eb8_len, show 8 * (i + 1) + k - 8 = 8 * i + k by omega, ← List.getD_eq_getElem?_getD]
    exact mbS_get l i k e h hk
/-- What both ways of reading find. -/
theorem rdE_mbS {l : List (Nat × Nat)} {i : Nat} {e : Nat × Nat} (h : l[i]? = some e) (hg : e.1 < 4096 ∧ e.2 < 65536) : rdE (mbS l) i = e ∧ rdE4 (mbS l) i = e := by
  have g : ∀ k, k < 8 → nb (mbS l) (8 * i + k) = nb (eb8 e) k := fun k hk => by unfold nb; rw [mbS_get l i k e h hk]
  have g0 := g 0 (by decide)
  rw [Nat.add_zero] at g0
  obtain ⟨-, h1, h2⟩ := eb8_at e (by omega)
  have z2 : nb (eb8 e) 2 = 0 := by unfold nb eb8; simp; omega
  have z3 : nb (eb8 e) 3 = 0 := by unfold nb eb8; simp; omega
  unfold rdE rdE4
  rw [g0, g 1 (by decide), g 2 (by decide), g 3 (by decide), g 4 (by decide), g 5 (by decide)]
  exact ⟨by ext <;> dsimp only <;> omega, by ext <;> dsimp only <;> omega⟩
theorem rdL4_bd (b : List UInt8) : ∀ e ∈ rdL4 b, e.1 < 4294967296 ∧ e.2 < 65536 := fun e he => by
  simp only [rdL4, List.mem_map, List.mem_range] at he
  obtain ⟨i, -, rfl⟩ := he
  have := nb_lt b (8 * i); have := nb_lt b (8 * i + 1); have := nb_lt b (8 * i + 2); have := nb_lt b (8 * i + 3); have := nb_lt b (8 * i + 4); have := nb_lt b (8 * i + 5)
  unfold rdE4
  dsimp only
  omega
theorem rdL_bd (b : List UInt8) : ∀ e ∈ rdL b, e.1 < 65536 ∧ e.2 < 65536 := fun e he => by
  simp only [rdL, List.mem_map, List.mem_range] at he
  obtain ⟨i, -, rfl⟩ := he
  have := nb_lt b (8 * i); have := nb_lt b (8 * i + 1); have := nb_lt b (8 * i + 4); have := nb_lt b (8 * i + 5)
  unfold rdE
  dsimp only
  omega
theorem rdL_mbS {l : List (Nat × Nat)} (hl : l.length = 8) (hg : ∀ e ∈ l, e.1 < 4096 ∧ e.2 < 65536) : rdL (mbS l) = l ∧ rdL4 (mbS l) = l := by
  constructor
  · apply List.ext_getElem?
    intro i
    by_cases hi : i < 8
    · have h : l[i]? = some (l[i]'(by omega)) := List.getElem?_eq_getElem _
      rw [h, rdL, List.getElem?_map, List.getElem?_range hi, Option.map_some, (rdE_mbS h (hg _ (List.getElem_mem _))).1]
    · rw [List.getElem?_eq_none (by rw [rdL_len]; omega), List.getElem?_eq_none (by omega)]
  · apply List.ext_getElem?
    intro i
    by_cases hi : i < 8
    · have h : l[i]? = some (l[i]'(by omega)) := List.getElem?_eq_getElem _
      rw [h, rdL4, List.getElem?_map, List.getElem?_range hi, Option.map_some, (rdE_mbS h (hg _ (List.getElem_mem _))).2]
    · rw [List.getElem?_eq_none (by rw [rdL4_len]; omega), List.getElem?_eq_none (by omega)]
/-- The program's own test is the same. -/
theorem isM_4 {b : List UInt8} (hb : b.length = 64) : (((rdL4 b).all gdE = true ∧ mbS (rdL4 b) = b) ↔ isM b = true) ∧ (isM b = true → rdL4 b = rdL b) := by
  have key : (rdL4 b).all gdE = true ∧ mbS (rdL4 b) = b → rdL4 b = rdL b := fun ⟨h1, h2⟩ => by
    have := (rdL_mbS (rdL4_len b) (fun e he => ⟨by have := List.all_eq_true.1 h1 e he; unfold gdE at this; simpa using this, (rdL4_bd b e he).2⟩)).1
    rw [h2] at this
    exact this.symm
  have key2 : isM b = true → rdL4 b = rdL b := fun h => by
    unfold isM at h
    obtain ⟨-, h1, h2⟩ := of_decide_eq_true h
    have := (rdL_mbS (rdL_len b) (fun e he => ⟨by have := List.all_eq_true.1 h1 e he; unfold gdE at this; simpa using this, (rdL_bd b e he).2⟩)).2
    rw [h2] at this
    exact this
  refine ⟨⟨fun h => ?_, fun h => ?_⟩, key2⟩
  · have e := key h
    rw [e] at h
    exact decide_eq_true ⟨hb, h⟩
  · rw [key2 h]
    exact (of_decide_eq_true h).2
end Go.Proofs.Ytbmblofhogihdaa
