/- DiskOrder in plain lists. -/
import Derived.Test.YtpcaaobninnkaaaDskArmedW
namespace Go.Proofs.Ytpcaaobninnkaaa
open Go.RowKit

theorem sect_whole (b : List UInt8) (h : b.length = 64) : sect b 0 ++ sect b 1 ++ sect b 2 ++ sect b 3 = b := by
  unfold sect
  have e3 : (b.drop (3 * 16)).take 16 = b.drop 48 := List.take_of_length_le (by simp; omega)
  have h1 : ∀ k n : Nat, (b.drop k).take n ++ b.drop (k + n) = b.drop k := fun k n => by
    have := List.take_append_drop n (b.drop k)
    rwa [List.drop_drop] at this
  rw [e3]
  have a2 := h1 32 16
  have a1 := h1 16 16
  have a0 := h1 0 16
  simp only [List.append_assoc]
  show (b.drop 0).take 16 ++ ((b.drop 16).take 16 ++ ((b.drop 32).take 16 ++ b.drop 48)) = b
  rw [a2, a1, a0]; rfl
theorem spl_pre (p a b : List UInt8) (t : Nat) (hp : p.length = t * 16) : spl (p ++ a.drop (t * 16)) b t = p ++ sect b t ++ a.drop (t * 16 + 16) := by
  unfold spl
  rw [← hp, List.take_left, List.drop_length_add_append, List.drop_drop]
theorem spl_four (a b : List UInt8) (ha : a.length = 64) (hb : b.length = 64) : spl (spl (spl (spl a b 0) b 1) b 2) b 3 = b := by
  have l0 := sect_len b 0 hb (by decide)
  have l1 := sect_len b 1 hb (by decide)
  have l2 := sect_len b 2 hb (by decide)
  have s0 := spl_pre [] a b 0 rfl
  have s1 := spl_pre (sect b 0) a b 1 l0
  have s2 := spl_pre (sect b 0 ++ sect b 1) a b 2 (by rw [List.length_append, l0, l1])
  have s3 := spl_pre (sect b 0 ++ sect b 1 ++ sect b 2) a b 3 (by rw [List.length_append, List.length_append, l0, l1, l2])
  simp only [List.nil_append, Nat.zero_mul, List.drop_zero, Nat.zero_add] at s0
  rw [s0]
  rw [s1]
  rw [s2]
  rw [s3, List.drop_of_length_le (by omega), List.append_nil]
  exact sect_whole b hb
theorem crash1_none (x : Nat × List UInt8) (l : List (List UInt8)) (f : Nat → Bool) (hf : ∀ t, f t = false) (m : Nat) : crash1 f x m l = l := by
  induction m with
  | zero => rfl
  | succ m ih => rw [crash1_step, hf, if_neg (by decide), ih]
theorem crash1_full (x : Nat × List UInt8) (l : List (List UInt8)) (n : Nat) (h : All64 n l) (hx : x.2.length = 64) (hn : x.1 < n) (f : Nat → Bool) (hf : ∀ t, f t = true) : crash1 f x 4 l = l.set x.1 x.2 := by
  have hl : x.1 < l.length := by rw [h.1]; exact hn
  have hc : ∀ (a : List UInt8) t, cutIn x (l.set x.1 a) t = l.set x.1 (spl a x.2 t) := fun a t => by
    unfold cutIn
    rw [List.set_set, List.getD_eq_getElem?_getD, List.getElem?_set_self hl]
    rfl
  have h0 : (l.getD x.1 []).length = 64 := by
    rw [List.getD_eq_getElem?_getD, List.getElem?_eq_getElem hl]
    exact h.2 _ (List.getElem_mem hl)
  have c0 : crash1 f x 0 l = l := rfl
  rw [crash1_step, hf, if_pos rfl, crash1_step, hf, if_pos rfl, crash1_step, hf, if_pos rfl, crash1_step, hf, if_pos rfl, c0]
  rw [show cutIn x l 0 = l.set x.1 (spl (l.getD x.1 []) x.2 0) from rfl, hc, hc, hc, spl_four _ _ h0 hx]

/-- The disk of these fills. -/
def ordD (fs : List UInt8) : Dsk := ⟨List.replicate 3 zero64, fs.map fun f => (1, round64 [f]), fs.length, -1, 3, #[]⟩
theorem ordD_step (fs : List UInt8) (f : UInt8) : (ordD fs).wrote 1 (round64 [f]) = ordD (fs ++ [f]) := by
  unfold ordD Dsk.wrote Dsk.stepped
  rw [List.map_append, List.length_append]
  rfl
theorem ordD_zero : freshD 3 = ordD [] := rfl
/-- Which fill counts behind a crash; and the last one. -/
def wantF (fs : List UInt8) (keep : List Bool) : Nat → UInt8
  | 0 => 0
  | j + 1 => if keep.getD j false = true then fs.getD j 0 else wantF fs keep j
def lastF (fs : List UInt8) : Nat → UInt8
  | 0 => 0
  | j + 1 => fs.getD j 0
theorem zero_round : round64 [0] = zero64 := by decide
theorem ord_crash (fs : List UInt8) (keep : List Bool) (torn sectors : Int) (ht : torn < 0) (cap : Nat) (pad : Array Value) :
    ((ordD fs).crashed (crashF keep torn sectors) cap pad).read 1 = round64 [wantF fs keep fs.length] := by
  have hq : (ordD fs).queue.length = fs.length := by simp [ordD]
  have h64 : All64 3 (ordD fs).sure := ⟨by simp [ordD], fun x hx => by
    have : x = zero64 := by
      simp [ordD] at hx; exact hx
    rw [this]; unfold zero64; rw [List.length_replicate]⟩
  have hqs : ∀ x ∈ (ordD fs).queue, x.2.length = 64 ∧ x.1 < 3 := fun x hx => by
    simp only [ordD, List.mem_map] at hx
    obtain ⟨f, _, rfl⟩ := hx
    exact ⟨round64_len _, Nat.le_of_ble_eq_true rfl⟩
  have key : ∀ m, m ≤ fs.length → (crashN (crashF keep torn sectors) (ordD fs).queue m (ordD fs).sure)[1]? = some (round64 [wantF fs keep m]) := by
    intro m
    induction m with
    | zero => intro _; rw [show wantF fs keep 0 = 0 from rfl, zero_round]; rfl
    | succ m ih =>
      intro hm
      have hx : (ordD fs).queue[m]? = some (1, round64 [fs[m]]) := by simp [ordD, List.getElem?_map]; exact ⟨fs[m], by simp, rfl⟩
      rw [crashN_step _ _ _ _ _ hx]
      have hn := crashN_64 (f := crashF keep torn sectors) h64 hqs m (by rw [hq]; omega)
      have hno : ((m : Int) == torn) = false := by simp; omega
      by_cases hk : keep.getD m false = true
      · rw [crash1_full _ _ 3 hn (round64_len _) (Nat.le_of_ble_eq_true rfl) _ (fun t => by unfold crashF; rw [hk]; rfl)]
        rw [List.getElem?_set_self (by rw [hn.1]; exact Nat.le_of_ble_eq_true rfl)]
        show some (round64 [fs[m]]) = some (round64 [if keep.getD m false = true then fs.getD m 0 else wantF fs keep m])
        rw [if_pos hk, List.getD_eq_getElem?_getD, List.getElem?_eq_getElem (by omega)]; rfl
      · rw [crash1_none _ _ _ (fun t => by unfold crashF; rw [hno, Bool.eq_false_iff.2 hk]; rfl), ih (by omega)]
        show _ = some (round64 [if keep.getD m false = true then fs.getD m 0 else wantF fs keep m])
        rw [if_neg hk]
  have := key fs.length (Nat.le_refl _)
  show (crashN (crashF keep torn sectors) (ordD fs).queue (ordD fs).queue.length (ordD fs).sure).getD 1 [] = _
  rw [hq, List.getD_eq_getElem?_getD, this]; rfl
theorem ord_barred (fs : List UInt8) : (putQ (ordD fs).queue (ordD fs).sure)[1]? = some (round64 [lastF fs fs.length]) := by
  have key : ∀ m, m ≤ fs.length → (putQ ((ordD fs).queue.take m) (ordD fs).sure)[1]? = some (round64 [lastF fs m]) := by
    intro m
    induction m with
    | zero => intro _; rw [show lastF fs 0 = 0 from rfl, zero_round]; rfl
    | succ m ih =>
      intro hm
      have hx : (ordD fs).queue[m]? = some (1, round64 [fs[m]]) := by simp [ordD, List.getElem?_map]; exact ⟨fs[m], by simp, rfl⟩
      rw [putQ_step _ _ _ _ hx, List.getElem?_set_self (by rw [putQ_len]; exact Nat.le_of_ble_eq_true rfl)]
      show some (round64 [fs[m]]) = some (round64 [fs.getD m 0])
      rw [List.getD_eq_getElem?_getD, List.getElem?_eq_getElem (by omega)]; rfl
  have := key fs.length (Nat.le_refl _)
  rwa [List.take_of_length_le (by simp [ordD])] at this
theorem ord_again (fs : List UInt8) (keep : List Bool) (torn sectors : Int) (cap : Nat) (pad : Array Value) : ((ordD fs).barred.crashed (crashF keep torn sectors) cap pad).read 1 = round64 [lastF fs fs.length] := by
  show (putQ (ordD fs).queue (ordD fs).sure).getD 1 [] = _
  rw [List.getD_eq_getElem?_getD, ord_barred]; rfl
end Go.Proofs.Ytpcaaobninnkaaa
