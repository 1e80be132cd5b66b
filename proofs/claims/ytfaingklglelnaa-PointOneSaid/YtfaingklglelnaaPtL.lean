/- Points and their blocks, in plain lists: what is written is read; blocks of sectors of two points. -/
import Derived.Test.YtfaingklglelnaaPtDecW
import Derived.Test.YtfaingklglelnaaSecS
namespace Go.Proofs.Ytfaingklglelnaa
open Go.RowKit

theorem ptBytes_cons (e c n f : Nat) : ptBytes e c n f = leN e 2 ++ (leN c 2 ++ (0 :: (leN n 2 ++ (leN f 2 ++ (ptBytes e c n f).drop 9)))) := by
  simp [ptBytes, ptUp, ptSec, ptHead, ptW, leN_two, List.range_succ, List.replicate]
theorem ptOf_bytes {p : Pt} (h : p.P) : ptOf p.bytes = p := by
  obtain ⟨e, c, n, f⟩ := p
  obtain ⟨h1, h2, h3, h4⟩ := h
  have E := ptBytes_cons e c n f
  have f0 := fld2_leN (l := ptBytes e c n f) (i := 0) (x := e) (pre := []) (rest := leN c 2 ++ (0 :: (leN n 2 ++ (leN f 2 ++ (ptBytes e c n f).drop 9)))) E rfl
  have f2 := fld2_leN (l := ptBytes e c n f) (i := 2) (x := c) (pre := leN e 2) (rest := 0 :: (leN n 2 ++ (leN f 2 ++ (ptBytes e c n f).drop 9))) E (leN_length _ _)
  have f5 := fld2_leN (l := ptBytes e c n f) (i := 5) (x := n) (pre := leN e 2 ++ (leN c 2 ++ [0])) (rest := leN f 2 ++ (ptBytes e c n f).drop 9) (by rw [List.append_assoc, List.append_assoc]; exact E) (by simp [leN_length])
  have f7 := fld2_leN (l := ptBytes e c n f) (i := 7) (x := f) (pre := leN e 2 ++ (leN c 2 ++ (0 :: leN n 2))) (rest := (ptBytes e c n f).drop 9) (by rw [List.append_assoc, List.append_assoc]; exact E) (by simp [leN_length])
  have b1 : e < 65536 := Int.ofNat_lt.1 h1.2
  have b2 : c < 65536 := Int.ofNat_lt.1 h2.2
  have b3 : n < 4096 := Int.ofNat_lt.1 h3.2
  have b4 : f < 4096 := Int.ofNat_lt.1 h4.2
  rw [Nat.mod_eq_of_lt b1] at f0
  rw [Nat.mod_eq_of_lt b2] at f2
  rw [Nat.mod_eq_of_lt (by omega)] at f5 f7
  show (⟨_, _, _, _⟩ : Pt) = _
  rw [show (Pt.bytes ⟨e, c, n, f⟩) = ptBytes e c n f from rfl, f0, f2, f5, f7]
theorem decP_bytes {p : Pt} (h : p.P) : decP p.bytes = some p := by
  unfold decP
  rw [ptOf_bytes h, if_pos ⟨ptBytes_length _ _ _ _, h, rfl⟩]
theorem decP_some {l : List UInt8} {p : Pt} (h : decP l = some p) : p.P ∧ p.bytes = l := by
  unfold decP at h
  split at h
  · rename_i hh
    simp only [Option.some.injEq] at h
    exact ⟨h ▸ hh.2.1, h ▸ hh.2.2⟩
  · cases h
theorem bytes_inj {p q : Pt} (hp : p.P) (hq : q.P) (h : p.bytes = q.bytes) : p = q := by
  have := decP_bytes hp
  rw [h, decP_bytes hq] at this
  simpa using this.symm
theorem sec_bytes (p : Pt) {s : Nat} (hs : s < 4) : sec p.bytes s = ptSec p.e p.c p.n p.f s := by
  have E : p.bytes = ptSec p.e p.c p.n p.f 0 ++ (ptSec p.e p.c p.n p.f 1 ++ (ptSec p.e p.c p.n p.f 2 ++ ptSec p.e p.c p.n p.f 3)) := by
    show ptBytes _ _ _ _ = _
    simp [ptBytes, ptUp, List.range_succ]
  obtain ⟨h0, h1, h2, h3⟩ := sec_app (ptSec_length (e := p.e) (c := p.c) (n := p.n) (f := p.f) (s := 0) (by decide)) (ptSec_length (e := p.e) (c := p.c) (n := p.n) (f := p.f) (s := 1) (by decide)) (ptSec_length (e := p.e) (c := p.c) (n := p.n) (f := p.f) (s := 2) (by decide)) (ptSec_length (e := p.e) (c := p.c) (n := p.n) (f := p.f) (s := 3) (by decide))
  rw [E]
  have : s = 0 ∨ s = 1 ∨ s = 2 ∨ s = 3 := by omega
  rcases this with rfl | rfl | rfl | rfl
  · exact h0
  · exact h1
  · exact h2
  · exact h3
/-- The Epoch and the Count in a sector. -/
def secE (l : List UInt8) (s : Nat) : Nat := fld (sec l s) 0 2
def secC (l : List UInt8) (s : Nat) : Nat := fld (sec l s) 2 2
theorem sec_head {p : Pt} (h : p.P) {s : Nat} (hs : s < 4) : secE p.bytes s = p.e ∧ secC p.bytes s = p.c := by
  obtain ⟨h1, h2, -, -⟩ := h
  unfold secE secC
  rw [sec_bytes p hs]
  unfold ptSec ptHead
  constructor
  · rw [fld2_leN (i := 0) (pre := []) (x := p.e) (rest := leN p.c 2 ++ [UInt8.ofNat s] ++ ((ptW p.n p.f).drop (11 * s)).take 11) (by simp) rfl]; omega
  · rw [fld2_leN (i := 2) (pre := leN p.e 2) (x := p.c) (rest := [UInt8.ofNat s] ++ ((ptW p.n p.f).drop (11 * s)).take 11) (by simp) (leN_length _ _)]; omega
/-- A block that has a sector of a point, and one of unlike Epoch or Count, is no point's. -/
theorem mix_no {m : Nat → Bool} {p : Pt} {b : List UInt8} (hp : p.P) (hb : b.length = 64) {s t : Nat} (hs : s < 4) (ht : t < 4) (ms : m s = true) (mt : m t = false) (hne : secE b t ≠ p.e ∨ secC b t ≠ p.c) :
    decP (mixB m p.bytes b) = none := by
  rcases h : decP (mixB m p.bytes b) with _ | x
  · rfl
  · exfalso
    obtain ⟨hx, he⟩ := decP_some h
    have hpl : p.bytes.length = 64 := ptBytes_length _ _ _ _
    have e1 : sec x.bytes s = sec p.bytes s := by rw [he, sec_mix hpl hb hs]; unfold mixS; rw [if_pos ms]
    have e2 : sec x.bytes t = sec b t := by rw [he, sec_mix hpl hb ht]; unfold mixS; rw [mt]; rfl
    have a1 := sec_head hx hs
    have a2 := sec_head hp hs
    have a3 := sec_head hx ht
    unfold secE secC at *
    rw [e1] at a1
    rw [e2] at a3
    rcases hne with h | h
    · exact h (by rw [a3.1, ← a1.1, a2.1])
    · exact h (by rw [a3.2, ← a1.2, a2.2])
end Go.Proofs.Ytfaingklglelnaa
