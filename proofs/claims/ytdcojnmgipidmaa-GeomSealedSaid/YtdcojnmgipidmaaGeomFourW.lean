/- The walk over the closure of geom.Decode that reads a number out of four bytes. -/
import Derived.Test.YtdcojnmgipidmaaGeomDecS
import Derived.BigQuiet
namespace Go.Proofs.Ytdcojnmgipidmaa
open Go.RowKit

set_option maxRecDepth 100000 in
set_option maxHeartbeats 1000000 in
theorem four_fn (p : Nat) (ad : Addr) (j c B : Nat) (l : List UInt8) (w : World) (hp : w.cell? ⟨p, 0, none⟩ = some (.slice (some ad) 60 c)) (h : By w B (some ad) 60 l) (hj : j ≤ 56) :
    Calls Try.prog 27 #[.int .i64 j, .pointer (some ⟨p, 0, none⟩)] w fun e w' => e = .returned (.int .i64 (at4 l j : Nat)) ∧ ∃ k, w' = w.drewN k := by
  obtain ⟨l0, _, e0, c0⟩ := By.get h (k := j) (by omega)
  obtain ⟨l1, _, e1, c1⟩ := By.get h (k := j + 1) (by omega)
  obtain ⟨l2, _, e2, c2⟩ := By.get h (k := j + 2) (by omega)
  obtain ⟨l3, _, e3, c3⟩ := By.get h (k := j + 3) (by omega)
  cases e0; cases e1; cases e2; cases e3
  have k1 : j + 1 < 60 := by omega
  have k2 : j + 2 < 60 := by omega
  have k3 : j + 3 < 60 := by omega
  have hat := hide (show num4 l[j].toNat l[j + 1].toNat l[j + 2].toNat l[j + 3].toNat = at4 l j by
    unfold at4
    simp [List.getD, l0, l1, l2, l3])
  have b0 := l[j].toNat_lt
  have b1 := l[j + 1].toNat_lt
  have b2 := l[j + 2].toNat_lt
  have b3 := l[j + 3].toNat_lt
  clear h
  generalize l[j].toNat = x0 at *
  generalize l[j + 1].toNat = x1 at *
  generalize l[j + 2].toNat = x2 at *
  generalize l[j + 3].toNat = x3 at *
  have wr : ∀ x : Nat, x ≤ 4294967296 → IntKind.i64.wrap (x : Int) = x := fun x hx => by rw [IntKind.wrap_i64]; omega
  have hor := hide (num4_or x0 x1 x2 x3 b0 b1 b2 b3)
  have v0 := wr x0 (by omega)
  have v1 := wr x1 (by omega)
  have v2 := wr x2 (by omega)
  have v3 := wr x3 (by omega)
  have s1 : IntKind.i64.wrap ((x1 : Int) * 256) = (x1 : Int) * 256 := by rw [IntKind.wrap_i64]; omega
  have s2 : IntKind.i64.wrap ((x2 : Int) * 65536) = (x2 : Int) * 65536 := by rw [IntKind.wrap_i64]; omega
  have s3 : IntKind.i64.wrap ((x3 : Int) * 16777216) = (x3 : Int) * 16777216 := by rw [IntKind.wrap_i64]; omega
  have t1 : IntKind.i64.wrap ((j : Int) + 1) = ((j + 1 : Nat) : Int) := by rw [IntKind.wrap_i64]; omega
  have t2 : IntKind.i64.wrap ((j : Int) + 2) = ((j + 2 : Nat) : Int) := by rw [IntKind.wrap_i64]; omega
  have t3 : IntKind.i64.wrap ((j : Int) + 3) = ((j + 3 : Nat) : Int) := by rw [IntKind.wrap_i64]; omega
  generalize j + 1 = j1 at *
  generalize j + 2 = j2 at *
  generalize j + 3 = j3 at *
  have i0 : (j : Int) < 60 := by omega
  have i1 : (j1 : Int) < 60 := by omega
  have i2 : (j2 : Int) < 60 := by omega
  have i3 : (j3 : Int) < 60 := by omega
  go_enter Try.func27, Try.ntmps27
  go_wp2_with fail
  go_quiet (fail)
  go_wp2_with fail
  go_ret
  exact ⟨by rw [hor.out, hat.out]; rfl, _, rfl⟩
end Go.Proofs.Ytdcojnmgipidmaa
