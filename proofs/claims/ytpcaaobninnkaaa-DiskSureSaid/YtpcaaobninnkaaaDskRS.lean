/- The law's disk: what several walks share. -/
import Derived.Test.YtpcaaobninnkaaaDskLd
import Derived.Test.YtpcaaobninnkaaaConv
import Derived.Deep.DrawnRows
namespace Go.Proofs.Ytpcaaobninnkaaa
open Go.RowKit

theorem modU (a q : Int) (hq : 0 < q) (hq2 : q < 1000000) : ∃ k : Nat, RowKit.wrap64 ((IntKind.u64.wrap a).tmod q) = k ∧ (k : Int) < q := by
  have h0' : 0 ≤ IntKind.u64.wrap a := by simp [IntKind.wrap, IntKind.bits, IntKind.signed]; omega
  generalize IntKind.u64.wrap a = u at *
  rw [Int.tmod_eq_emod_of_nonneg h0']
  have e1 := Int.emod_nonneg u (show q ≠ 0 by omega)
  have e2 := Int.emod_lt_of_pos u hq
  exact ⟨(u % q).toNat, by rw [IntWalk.wrap64_in _ (by omega)]; omega, by omega⟩
theorem ld_new' (w : World) (n : Nat) (x : Int) (hx : x = (n : Int)) (h1 : 1 ≤ n) (h2 : n ≤ 4096) :
    Calls Try.prog 11 #[.int .i64 x] w fun e w' => ∃ d, e = .returned (.tuple #[.pointer (some ⟨d, 0, none⟩), .int .i64 0]) ∧ LD w w' d (freshD n) := by subst hx; exact ld_new w n h1 h2
theorem mk_63 (w : World) : (Instr.makeSlice 22 (.int .i64 63) (.int .i64 63)).run Try.prog w = .ok (.slice (some ⟨w.heap.size, 0, none⟩) 63 63) (w.alloc (.cells (u8s (List.replicate 63 0)).toArray 5)) := by
  have := run_mks (P := Try.prog) (t := 22) (k := 1) (bytes := 1) (z := .int .u8 0) Try.underlying22 (by kernel_rfl) .i64 .i64 63 (by omega) (by omega) w
  rw [show madeCells (Value.int .u8 0).cells (63 * 1) = (u8s (List.replicate 63 0)).toArray by kernel_rfl] at this
  exact this
theorem by_blk {w : World} {g : Nat} {t : TypeId} {l : List UInt8} {n : Nat} (h : Blk w g t (u8s l).toArray) (hn : l.length = n) : By w w.heap.size (some ⟨g, 0, none⟩) n l :=
  ⟨by rw [u8s_length]; exact hn, fun j u hu => ⟨_, rfl, h.lt, by rw [Addr.add_mid, Nat.zero_add, h.cell]; simpa using hu⟩⟩
theorem fresh_read (n i : Nat) (hi : i < n) : (freshD n).read i = zero64 := by
  unfold Dsk.read freshD readQ
  simp [List.getD_eq_getElem?_getD, hi]
theorem wrote_read (D : Dsk) (i : Nat) (b : List UInt8) : (D.wrote i b).read i = b := by
  unfold Dsk.read Dsk.wrote Dsk.stepped readQ
  simp

theorem cvt' {f : Value → World → Result Value} (hf : ∀ (A : Option Addr) (n c : Nat) (w : World), (convert 22 9 (.slice A n c)).run Try.prog w = f (.slice A n c) w) {w : World} {B : Nat} {A : Option Addr} {n : Nat} (c : Nat) {l : List UInt8} (h : By w B A n l) : f (.slice A n c) w = .ok (.string (txt l)) w :=
  cv_txt hf Try.underlying22 Try.underlying5 Try.underlying9 c h
theorem u8inc (x : UInt8) : IntKind.u8.wrap ((x.toNat : Int) + 1) = (((x + 1 : UInt8).toNat : Nat) : Int) := by
  have h : (x + 1).toNat = (x.toNat + 1) % 256 := by rw [UInt8.toNat_add]; rfl
  rw [h]
  simp [IntKind.wrap, IntKind.bits, IntKind.signed]
theorem bool_at {w : World} {B m : Nat} {A : Option Addr} {bs : List Bool} (h : Sl w B A m (bs.map Value.bool)) (j : Nat) : (j < m ∧ ∃ ad, A = some ad ∧ w.cell? (ad.add j) = some (.bool (bs.getD j false))) ∨ (m ≤ j ∧ bs.getD j false = false) := by
  have hl := h.len
  rw [List.length_map] at hl
  rcases Nat.lt_or_ge j m with hj | hj
  · obtain ⟨ad, u, hA, -, hu, hc⟩ := h.get hj
    refine .inl ⟨hj, ad, hA, ?_⟩
    rw [List.getElem?_map, List.getElem?_eq_getElem (by omega)] at hu
    simp only [Option.map_some, Option.some.injEq] at hu
    rw [hc, ← hu, List.getD_eq_getElem?_getD, List.getElem?_eq_getElem (by omega)]
    rfl
  · exact .inr ⟨hj, by rw [List.getD_eq_getElem?_getD, List.getElem?_eq_none (by omega)]; rfl⟩
theorem ld_arm_ok' {w0 w : World} {d : Nat} {D : Dsk} (h : LD w0 w d D) (n x : Int) (hx : x = n) (h0 : 0 ≤ n) (h1 : n ≤ 9223372036854775807) (hl : D.left ≠ 0) : Calls Try.prog 20 #[.pointer (some ⟨d, 0, none⟩), .int .i64 x] w fun e w' => e = .returned (.int .i64 0) ∧ LD w0 w' d { D with left := n } := by
  subst hx; exact ld_arm_ok h x h0 h1 hl

end Go.Proofs.Ytpcaaobninnkaaa
