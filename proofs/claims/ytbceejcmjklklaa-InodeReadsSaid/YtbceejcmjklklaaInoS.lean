/- An inode's bytes tell its numbers. No program in sight. -/
import Derived.Test.YtbceejcmjklklaaInoW
namespace Go.Proofs.Ytbceejcmjklklaa
open Go.RowKit

theorem numL_leN (n k : Nat) : numL (leN n k) = n % 256 ^ k := by
  induction k with
  | zero => simp [leN, numL, Nat.mod_one]
  | succ k ih => rw [leN_succ, numL_snoc, ih, leN_length, Nat.mod_pow_succ, UInt8.toNat_ofNat', Nat.mul_comm]
theorem leN_inj {a b k : Nat} (ha : a < 256 ^ k) (hb : b < 256 ^ k) (h : leN a k = leN b k) : a = b := by
  have := congrArg numL h
  rw [numL_leN, numL_leN, Nat.mod_eq_of_lt ha, Nat.mod_eq_of_lt hb] at this
  exact this
theorem four_inj {a b : Nat} (ha : a < 4294967296) (hb : b < 4294967296) (h : four a = four b) : a = b := by
  rw [← leN_four, ← leN_four] at h
  exact leN_inj (k := 4) (by omega) (by omega) h
theorem fours_inj : ∀ {ps qs : List Nat}, (∀ x ∈ ps, x < 4294967296) → (∀ x ∈ qs, x < 4294967296) → ps.length = qs.length → ps.flatMap four = qs.flatMap four → ps = qs
  | [], [], _, _, _, _ => rfl
  | [], _ :: _, _, _, h, _ => by cases h
  | _ :: _, [], _, _, h, _ => by cases h
  | p :: ps, q :: qs, hp, hq, hl, h => by
    rw [List.flatMap_cons, List.flatMap_cons] at h
    obtain ⟨h1, h2⟩ := List.append_inj h (by rw [four_length, four_length])
    rw [four_inj (hp p (by simp)) (hq q (by simp)) h1, fours_inj (fun x hx => hp x (by simp [hx])) (fun x hx => hq x (by simp [hx])) (by simpa using hl) h2]
theorem inoPre_inj {a v k l s a' v' k' l' s' : Nat} (h1 : InoP a v k l s) (h2 : InoP a' v' k' l' s') (h : inoPre a v k l s = inoPre a' v' k' l' s') : a = a' ∧ v = v' ∧ k = k' ∧ l = l' ∧ s = s' := by
  unfold InoP at h1 h2
  unfold inoPre at h
  obtain ⟨h, e5⟩ := List.append_inj' h (by simp [leN_length])
  obtain ⟨h, e4⟩ := List.append_inj' h (by simp [leN_length])
  obtain ⟨h, e3⟩ := List.append_inj' h (by simp [leN_length])
  obtain ⟨e1, e2⟩ := List.append_inj' h (by simp [leN_length])
  exact ⟨leN_inj (k := 2) (by omega) (by omega) e1, leN_inj (k := 2) (by omega) (by omega) e2, leN_inj (k := 1) (by omega) (by omega) e3, leN_inj (k := 1) (by omega) (by omega) e4, leN_inj (k := 4) (by omega) (by omega) e5⟩
theorem sealed_inj {a b : List UInt8} (hl : a.length = b.length) (h : sealed a = sealed b) : a = b := by
  unfold sealed at h
  exact (List.append_inj h hl).1
theorem ino_inj {a v k l s a' v' k' l' s' : Nat} {ps qs : List Nat} (h1 : InoP a v k l s) (h2 : InoP a' v' k' l' s') (hp : ∀ x ∈ ps, x < 4294967296) (hq : ∀ x ∈ qs, x < 4294967296) (lp : ps.length = 9) (lq : qs.length = 9)
    (h : sealed (inoBytes a v k l s ps) = sealed (inoBytes a' v' k' l' s' qs)) : a = a' ∧ v = v' ∧ k = k' ∧ l = l' ∧ s = s' ∧ ps = qs := by
  have h := sealed_inj (by rw [inoBytes_length _ _ _ _ _ _ lp, inoBytes_length _ _ _ _ _ _ lq]) h
  unfold inoBytes at h
  obtain ⟨h, _⟩ := List.append_inj' h rfl
  obtain ⟨e1, e2⟩ := List.append_inj h (by rw [inoPre_length, inoPre_length])
  obtain ⟨r1, r2, r3, r4, r5⟩ := inoPre_inj h1 h2 e1
  exact ⟨r1, r2, r3, r4, r5, fours_inj hp hq (by rw [lp, lq]) e2⟩
theorem txt_beq_false {a b : List UInt8} (h : a ≠ b) : ((txt a).toList == (txt b).toList) = false := txt_ne h
end Go.Proofs.Ytbceejcmjklklaa
