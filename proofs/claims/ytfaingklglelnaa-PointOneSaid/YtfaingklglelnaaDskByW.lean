/- The walk over Bytes: a block's bytes, by going round. -/
import Derived.Test.YtfaingklglelnaaDskWyW
namespace Go.Proofs.Ytfaingklglelnaa
open Go.RowKit

/-- One of them. -/
def rb (l : List UInt8) (i : Nat) : UInt8 := if l = [] then 0 else l.getD (i % l.length) 0
/-- The first j of them, zeros behind. -/
def roundJ (l : List UInt8) (j : Nat) : List UInt8 := (List.range 64).map fun i => if i < j then rb l i else 0
def round64 (l : List UInt8) : List UInt8 := (List.range 64).map (rb l)
theorem round64_len (l : List UInt8) : (round64 l).length = 64 := by simp [round64]
theorem roundJ_len (l : List UInt8) (j : Nat) : (roundJ l j).length = 64 := by simp [roundJ]
theorem roundJ_zero (l : List UInt8) : roundJ l 0 = zero64 := by
  unfold roundJ zero64
  apply List.ext_getElem
  · simp
  · intro i h1 h2; rw [List.getElem_replicate]; simp
theorem roundJ_all (l : List UInt8) : roundJ l 64 = round64 l := by
  unfold roundJ round64
  apply List.ext_getElem
  · simp
  · intro i h1 h2
    have : i < 64 := by simpa using h2
    simp [this]
theorem roundJ_set (l : List UInt8) (j : Nat) (hj : j < 64) (x : UInt8) (hx : x = rb l j) : (roundJ l j).set j x = roundJ l (j + 1) := by
  subst hx
  apply List.ext_getElem
  · simp [roundJ]
  · intro i h1 h2
    rw [List.getElem_set]
    by_cases h : j = i
    · subst h; simp [roundJ]
    · have : (i < j + 1) ↔ (i < j) := by omega
      simp [roundJ, h, this]
theorem u8s_set (l : List UInt8) (j : Nat) (x : UInt8) : (u8s l).toArray.setIfInBounds j (.int .u8 (x.toNat : Int)) = (u8s (l.set j x)).toArray := by simp [u8s, List.map_set]
theorem mk_64 (w : World) : (Instr.makeSlice 24 (.int .i64 64) (.int .i64 64)).run Try.prog w = .ok (.slice (some ⟨w.heap.size, 0, none⟩) 64 64) (w.alloc (.cells (u8s zero64).toArray 5)) := by
  have := run_mks (P := Try.prog) (t := 24) (k := 1) (bytes := 1) (z := .int .u8 0) Try.underlying24 (by kernel_rfl) .i64 .i64 64 (by omega) (by omega) w
  rw [show madeCells (Value.int .u8 0).cells (64 * 1) = (u8s zero64).toArray by kernel_rfl] at this
  exact this

set_option maxRecDepth 100000 in
theorem bytes_any (w : World) (B : Nat) (A : Option Addr) (n c : Nat) (l : List UInt8) (h : By w B A n l) (hB : B ≤ w.heap.size) (hn : n ≤ 9223372036854775807) :
    Calls Try.prog 32 #[.slice A n c] w fun e w' => e = .returned (.slice (some ⟨w.heap.size, 0, none⟩) 64 64) ∧ Blk w' w.heap.size 5 (u8s (round64 l)).toArray ∧ Below w.heap.size w w' := by
  have km := mk_64 w
  have H := hide h
  have hl := h.length
  have HL := hide hl
  clear hl h
  go_enter Try.func32, Try.ntmps32
  go_wp2_with fail
  go_loopw [8] (fun x wr => ∃ j : Nat, j ≤ 64 ∧ x = .int .i64 (j : Int) ∧ Blk wr w.heap.size 5 (u8s (roundJ l j)).toArray ∧ Below w.heap.size w wr) (fun x _ => 64 - (intOf x).toNat)
  case atStart => exact ⟨0, Nat.zero_le _, rfl, by rw [roundJ_zero]; exact Blk.new w _ _, (Below.refl _ _).alloc (Nat.le_refl _) _⟩
  case round =>
    obtain ⟨j, hj, rfl, h1, h2⟩ := hrel
    have H1 := hide h1
    have H2 := hide h2
    clear h1 h2
    by_cases hlt : j < 64
    · by_cases hn0 : n = 0
      · subst hn0
        have hl0 : l = [] := List.eq_nil_of_length_eq_zero HL.out
        have hr : roundJ l (j + 1) = roundJ l j := by
          subst hl0
          simp [roundJ, rb]
        have hr := hide hr
        go_wp2_with fail
        go_roundw
        case rel => exact ⟨j + 1, by omega, by go_num, by rw [hr.out]; exact H1.out, H2.out⟩
        case measure => simp [intOf]; omega
      · have hm : j % n < n := Nat.mod_lt _ (by omega)
        obtain ⟨hml, ad, hA, hc⟩ := By.get ((H.out).below (H2.out.mono hB)) hm
        have he : rb l j = l[j % n] := by
          have h1 := HL.out
          have h2 : l ≠ [] := by intro e; subst e; simp at h1; omega
          unfold rb
          rw [if_neg h2, h1, List.getD_eq_getElem?_getD, List.getElem?_eq_getElem hml]; rfl
        have hst := hide (roundJ_set l j hlt l[j % n] he.symm)
        have hrem : (j : Int).tmod (n : Int) = ((j % n : Nat) : Int) := by
          rw [Int.tmod_eq_emod_of_nonneg (by omega)]; simp
        have hw : IntKind.i64.wrap ((j % n : Nat) : Int) = ((j % n : Nat) : Int) := by rw [IntKind.wrap_i64]; omega
        have hrem0 : ¬ ((n : Int) = 0) := by omega
        have hF := hide (H1.out.frozen j)
        have hf := H1.out.frozen j
        have hcj : (wr.cell? ⟨w.heap.size, j, none⟩).isSome = true := by
          rw [H1.out.cell, Array.getElem?_eq_getElem (by simp [u8s_length, roundJ_len]; exact hlt)]; rfl
        obtain ⟨u0, hu0⟩ := Option.isSome_iff_exists.1 hcj
        subst hA
        generalize hgm : j % n = m at *
        clear he hcj
        go_wp2_with fail
        go_roundw
        case rel =>
          refine ⟨j + 1, by omega, by go_num, ?_, H2.out.setCell (Nat.le_refl _) _⟩
          rw [← hst.out, ← u8s_set]
          exact H1.out.set j _
        case measure => simp [intOf]; omega
    · have hj64 : j = 64 := by omega
      have HE : Hid (Blk wr w.heap.size 5 (u8s (round64 l)).toArray) := by
        have := H1.out
        rw [hj64, roundJ_all] at this
        exact hide this
      clear hj64
      go_wp2_with fail
      go_ret
      exact ⟨rfl, HE.out, H2.out⟩
end Go.Proofs.Ytfaingklglelnaa
