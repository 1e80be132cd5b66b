/- DiskSure in plain lists: a sector behind a crash is that of the sure block, or of one of the queue's writes. -/
import Derived.Test.YtpcaaobninnkaaaDskRS
import Derived.Test.YtpcaaobninnkaaaSecS
namespace Go.Proofs.Ytpcaaobninnkaaa
open Go.RowKit

theorem sec_sect (l : List UInt8) (t : Nat) : sec l t = sect l t := by unfold sec sect; rw [Nat.mul_comm]
theorem sec_get (l : List UInt8) (t j : Nat) (hj : j < 16) : (sec l t)[j]? = l[16 * t + j]? := by
  unfold sec
  rw [List.getElem?_take_of_lt hj, List.getElem?_drop]
theorem spl_get (a b : List UInt8) (t k : Nat) (ha : a.length = 64) (hb : b.length = 64) (ht : t < 4) (hk : k < 64) : (spl a b t)[k]? = if t * 16 ≤ k ∧ k < t * 16 + 16 then b[k]? else a[k]? := by
  have l1 : (a.take (t * 16)).length = t * 16 := by rw [List.length_take]; omega
  have l2 := sect_len b t hb ht
  unfold spl
  by_cases h1 : k < t * 16
  · rw [List.append_assoc, List.getElem?_append_left (by omega), List.getElem?_take_of_lt h1, if_neg (by omega)]
  · by_cases h2 : k < t * 16 + 16
    · rw [if_pos (by omega), List.append_assoc, List.getElem?_append_right (by omega), List.getElem?_append_left (by omega), l1]
      unfold sect
      rw [List.getElem?_take_of_lt (by omega), List.getElem?_drop, show t * 16 + (k - t * 16) = k by omega]
    · rw [if_neg (by omega), List.getElem?_append_right (by rw [List.length_append]; omega), List.length_append, l1, l2, List.getElem?_drop, show t * 16 + 16 + (k - (t * 16 + 16)) = k by omega]
theorem sec_len (l : List UInt8) (t : Nat) (hl : l.length = 64) (ht : t < 4) : (sec l t).length = 16 := sec_length hl ht
theorem sec_spl (a b : List UInt8) (t s : Nat) (ha : a.length = 64) (hb : b.length = 64) (ht : t < 4) (hs : s < 4) : sec (spl a b t) s = if t = s then sec b s else sec a s := by
  have hl := spl_len a b t ha hb ht
  apply List.ext_getElem?
  intro j
  by_cases hj : j < 16
  · rw [sec_get _ _ _ hj, spl_get a b t _ ha hb ht (by omega)]
    by_cases e : t = s
    · subst e
      rw [if_pos rfl, if_pos (by omega), sec_get _ _ _ hj]
    · rw [if_neg e, if_neg (by omega), sec_get _ _ _ hj]
  · rw [List.getElem?_eq_none (by rw [sec_len _ _ hl hs]; omega)]
    split
    · rw [List.getElem?_eq_none (by rw [sec_len _ _ hb hs]; omega)]
    · rw [List.getElem?_eq_none (by rw [sec_len _ _ ha hs]; omega)]
/-- Each sector is one that was there, or one of these writes'. -/
def Among (q : List (Nat × List UInt8)) (l L : List (List UInt8)) : Prop := ∀ i s, s < 4 → sec (L.getD i []) s = sec (l.getD i []) s ∨ ∃ x ∈ q, x.1 = i ∧ sec (L.getD i []) s = sec x.2 s
theorem crash1_among {f : Nat → Bool} {q : List (Nat × List UInt8)} {x : Nat × List UInt8} {l L : List (List UInt8)} {n : Nat} (h : All64 n L) (hx : x.2.length = 64) (hn : x.1 < n) (hq : x ∈ q) (ha : Among q l L) : ∀ m, m ≤ 4 → Among q l (crash1 f x m L)
  | 0, _ => ha
  | m + 1, hm => by
    rw [crash1_step]
    have ih := crash1_among (f := f) h hx hn hq ha m (by omega)
    split
    · have h64 := crash1_64 (f := f) h hx hn m (by omega)
      intro i s hs
      unfold cutIn
      rw [List.getD_eq_getElem?_getD, List.getElem?_set]
      by_cases e : x.1 = i
      · subst e
        have hl : x.1 < (crash1 f x m L).length := by rw [h64.1]; exact hn
        have hg : ((crash1 f x m L).getD x.1 []).length = 64 := by
          rw [List.getD_eq_getElem?_getD, List.getElem?_eq_getElem hl]
          exact h64.2 _ (List.getElem_mem hl)
        rw [if_pos rfl, if_pos hl, Option.getD_some, sec_spl _ _ _ _ hg hx (by omega) hs]
        split
        · exact .inr ⟨x, hq, rfl, rfl⟩
        · exact ih x.1 s hs
      · rw [if_neg e, ← List.getD_eq_getElem?_getD]
        exact ih i s hs
    · exact ih
theorem crashN_among {f : Nat → Nat → Bool} {q : List (Nat × List UInt8)} {l : List (List UInt8)} {n : Nat} (h : All64 n l) (hq : ∀ x ∈ q, x.2.length = 64 ∧ x.1 < n) : ∀ m, m ≤ q.length → Among q l (crashN f q m l)
  | 0, _ => fun i s _ => .inl rfl
  | m + 1, hm => by
    have hx : q[m]? = some q[m] := List.getElem?_eq_getElem (by omega)
    have hmem := List.getElem_mem (show m < q.length by omega)
    obtain ⟨h1, h2⟩ := hq _ hmem
    rw [crashN_step f q m l _ hx]
    exact crash1_among (crashN_64 h hq m (by omega)) h1 h2 hmem (crashN_among h hq m (by omega)) 4 (Nat.le_refl _)
/-- What block i has had: what is sure, and the writes of the queue. -/
def hsOf (D : Dsk) (i : Nat) : List (List UInt8) := D.sure.getD i [] :: (D.queue.filter (fun x => x.1 == i)).map (·.2)
theorem hsOf_wrote (D : Dsk) (k : Nat) (b : List UInt8) (i : Nat) : hsOf (D.wrote k b) i = if i = k then hsOf D i ++ [b] else hsOf D i := by
  unfold hsOf Dsk.wrote Dsk.stepped
  simp only [List.filter_append, List.map_append]
  by_cases h : i = k
  · subst h; simp
  · have h' : ¬ k = i := fun e => h e.symm
    simp [h, h']
theorem sure_crash {D : Dsk} (h : D.Ok) (f : Nat → Nat → Bool) (cap : Nat) (pad : Array Value) (i s : Nat) (hs : s < 4) : ∃ b ∈ hsOf D i, sec ((D.crashed f cap pad).read i) s = sec b s := by
  have e : (D.crashed f cap pad).read i = (crashN f D.queue D.queue.length D.sure).getD i [] := rfl
  rw [e]
  rcases crashN_among (f := f) (n := D.sure.length) ⟨rfl, h.b⟩ h.q D.queue.length (Nat.le_refl _) i s hs with h1 | ⟨x, hx, rfl, h1⟩
  · exact ⟨_, List.mem_cons_self, h1⟩
  · exact ⟨x.2, List.mem_cons_of_mem _ (List.mem_map.2 ⟨x, List.mem_filter.2 ⟨hx, by simp⟩, rfl⟩), h1⟩
/-- The first writes. -/
def fill6 (j : Nat) : List UInt8 := round64 [UInt8.ofNat (j + 1), 7]
def up6 : Nat → Dsk
  | 0 => freshD 6
  | j + 1 => (up6 j).wrote j (fill6 j)
theorem up6_nums : ∀ j, (up6 j).steps = j ∧ (up6 j).queue.length = j ∧ (up6 j).left = -1 ∧ (up6 j).sure.length = 6
  | 0 => ⟨rfl, rfl, rfl, by show (List.replicate _ _).length = _; rw [List.length_replicate]⟩
  | j + 1 => by
    obtain ⟨h1, h2, h3, h4⟩ := up6_nums j
    refine ⟨by show (up6 j).steps + 1 = _; rw [h1], by show ((up6 j).queue ++ [_]).length = _; rw [List.length_append, h2]; rfl, by show max ((up6 j).left - 1) (-1) = _; rw [h3]; decide, h4⟩
def sure6 : Dsk := (up6 6).barred
theorem sure6_nums : sure6.steps = 7 ∧ sure6.queue = [] ∧ sure6.left = -1 ∧ sure6.sure.length = 6 := ⟨rfl, rfl, rfl, by unfold sure6; show (putQ _ _).length = _; rw [putQ_len]; exact (up6_nums 6).2.2.2⟩
theorem sure6_sure : sure6.sure = [fill6 0, fill6 1, fill6 2, fill6 3, fill6 4, fill6 5] := rfl
theorem sure6_hs (i : Nat) (hi : i < 6) : hsOf sure6 i = [fill6 i] := by
  unfold hsOf
  rw [sure6_nums.2.1, sure6_sure]
  have : i = 0 ∨ i = 1 ∨ i = 2 ∨ i = 3 ∨ i = 4 ∨ i = 5 := by omega
  rcases this with rfl | rfl | rfl | rfl | rfl | rfl <;> rfl
end Go.Proofs.Ytpcaaobninnkaaa
