/- The walk over slices.Equal at []byte. -/
import Derived.Test.YtfaingklglelnaaProg
import Derived.Test.YtfaingklglelnaaMem
import Derived.Deep.QuietTactic
import Derived.BigQuiet
namespace Go.Proofs.Ytfaingklglelnaa
open Go.RowKit

/-- Are two lists of bytes the same? -/
def eqB (a b : List UInt8) : Bool := decide (a = b)
theorem eqB_self (a : List UInt8) : eqB a a = true := by simp [eqB]
theorem eqB_of_ne {a b : List UInt8} (h : a ≠ b) : eqB a b = false := by simp [eqB, h]
theorem take_snoc_eq {a b : List UInt8} {k : Nat} (ha : k < a.length) (hb : k < b.length) (h : a.take k = b.take k) (he : a[k] = b[k]) : a.take (k + 1) = b.take (k + 1) := by
  rw [List.take_succ_eq_append_getElem ha, List.take_succ_eq_append_getElem hb, h, he]

set_option maxHeartbeats 400000 in
theorem equal_any (A A' : Option Addr) (n n' c c' B B' : Nat) (l l' : List UInt8) (w : World) (h : By w B A n l) (h' : By w B' A' n' l') (hn : n ≤ 9223372036854775807) :
    Calls Try.prog 38 #[.slice A n c, .slice A' n' c'] w fun e w' => e = .returned (.bool (eqB l l')) ∧ ∃ k, w' = w.drewN k := by
  have H := hide h
  have H' := hide h'
  clear h h'
  by_cases hnn : n = n'
  · subst hnn
    go_enter Try.func38, Try.ntmps38
    go_wp2
    go_loopw [13] (fun i wr => ∃ k : Nat, k ≤ n ∧ i = .int .i64 k ∧ l.take k = l'.take k ∧ ∃ d, wr = w.drewN d) (fun i _ => n - (intOf i).toNat)
    case atStart => exact ⟨0, by omega, rfl, rfl, 0, rfl⟩
    case round =>
      obtain ⟨k, hk, rfl, htk, d, rfl⟩ := hrel
      have Htk := hide htk
      clear htk
      by_cases hlt : k < n
      · obtain ⟨hl, ad, rfl, hcell⟩ := By.get H.out hlt
        obtain ⟨hl', ad', rfl, hcell'⟩ := By.get H'.out hlt
        by_cases heq : l[k] = l'[k]
        · have Hsn := hide (take_snoc_eq hl hl' Htk.out heq)
          rw [← heq] at hcell'
          clear heq
          generalize l[k].toNat = x at *
          go_wp2
          go_quiet (fail)
          go_wp2
          go_roundw
          case rel => exact ⟨k + 1, by omega, by go_num, Hsn.out, _, rfl⟩
          case measure => simp [intOf]; omega
        · have hne : ((l[k].toNat : Int) != l'[k].toNat) = true := by
            rw [bne_iff_ne]
            intro e
            exact heq (UInt8.toNat_inj.1 (by omega))
          have Hf := hide (eqB_of_ne (a := l) (b := l') (fun e => heq (by subst e; rfl)))
          clear heq
          generalize l[k].toNat = x at *
          generalize l'[k].toNat = y at *
          go_wp2
          go_quiet (fail)
          go_wp2
          go_ret
          exact ⟨by rw [Hf.out]; rfl, _, World.drewN_drewN _ _ _⟩
      · have Hl := hide (By.length H.out)
        have Hl' := hide (By.length H'.out)
        have Hf := hide (show l = l' by
          have := Htk.out
          rwa [List.take_of_length_le (by rw [Hl.out]; omega), List.take_of_length_le (by rw [Hl'.out]; omega)] at this)
        go_wp2
        go_ret
        exact ⟨by rw [Hf.out, eqB_self]; rfl, _, rfl⟩
  · have hne : ((n : Int) != n') = true := by rw [bne_iff_ne]; omega
    have Hf := hide (eqB_of_ne (a := l) (b := l') (fun e => hnn (by rw [← By.length H.out, ← By.length H'.out, e])))
    clear hnn
    go_enter Try.func38, Try.ntmps38
    go_wp2
    go_ret
    exact ⟨by rw [Hf.out]; rfl, 0, rfl⟩

/-- New memory of the call: bytes in a row of their own. -/
abbrev OwnBy (w : World) (base : Nat) (A : Option Addr) (n c : Nat) (l : List UInt8) : Prop := w.ownsRow base 5 1 (.slice A n c) n (u8s l)
theorem OwnBy.by {w : World} {base n c : Nat} {A : Option Addr} {l : List UInt8} (h : OwnBy w base A n c l) : By w w.heap.size A n l := Sl.of_own h
end Go.Proofs.Ytfaingklglelnaa
