import Derived.Test.YtlobkefacnedeaaDoorJc06
set_option linter.unusedVariables false
set_option linter.unusedSimpArgs false
/- Crashes of a quiet disk; one piece as a slice. -/
namespace Go.Proofs.YtlobkefacnedeaaDoor
open Go.RowKit
set_option maxRecDepth 100000

theorem crashed_none15 {D : Dsk} (hq : D.queue = []) (f : Nat → Nat → Bool) (cap : Nat) (pad : Array Value) : (D.crashed f cap pad).sure = D.sure ∧ (D.crashed f cap pad).queue = [] ∧ ∀ j, (D.crashed f cap pad).read j = D.read j := by
  have h1 : (D.crashed f cap pad).sure = D.sure := by
    show crashN f D.queue D.queue.length D.sure = D.sure
    rw [hq]
    rfl
  refine ⟨h1, rfl, fun j => ?_⟩
  unfold Dsk.read
  rw [h1, hq]
  rfl
/-- One piece as a slice of one. -/
theorem pcs_one {w : World} {a : Int} {v : PV} {A1 A2 A3 : Option Addr} {n1 c1 n2 c2 m c3 : Nat} {data : List UInt8} (ha : I64 a) (hf : FisAt 0 w.heap.size w A1 n1 v.fs) (hi : IntsAt 0 w.heap.size w A2 n2 v.is) (hd : By w w.heap.size A3 m data) (hmc : m ≤ c3)
    (hn1 : n1 ≤ 9223372036854775807) (hn2 : n2 ≤ 9223372036854775807) (hm : m ≤ 9223372036854775807) (hl : ∀ f ∈ v.fs, (∀ x ∈ f.ls, I64 x) ∧ f.ls.length ≤ 9223372036854775807) :
    PcsAt (w.alloc (.cells (rfC a v A1 n1 c1 A2 n2 c2 A3 m c3) 28)) (some ⟨w.heap.size, 0, none⟩) 1 [(a, v, data)] := by
  refine ⟨rfl, fun j p hp => ?_⟩
  cases j with
  | succ j => simp at hp
  | zero =>
    obtain rfl : (a, v, data) = p := by simpa using hp
    have hB := Blk.new w 28 (rfC a v A1 n1 c1 A2 n2 c2 A3 m c3)
    have ba := (Below.refl w.heap.size w).alloc (Nat.le_refl _) (.cells (rfC a v A1 n1 c1 A2 n2 c2 A3 m c3) 28)
    exact ⟨w.heap.size, 0, A1, n1, c1, A2, n2, c2, A3, m, c3, rfl, hB.lt, fun t u hu => by rw [show 0 + 0 * 9 + t = t by omega, hB.cell]; exact hu, ha, (hf.below ba).base_ ba.size, (RwAt.below hi ba).base_ ba.size, (hd.below ba).more ba.size, hmc, hn1, hn2, hm, hl⟩
end Go.Proofs.YtlobkefacnedeaaDoor

/- Sectors of blocks, in plain lists. No program in sight. -/
namespace Go.Proofs.YtlobkefacnedeaaDoor
open Go.RowKit
set_option maxRecDepth 100000

/-- A sector. -/
def sec (l : List UInt8) (s : Nat) : List UInt8 := (l.drop (16 * s)).take 16
theorem sec_length {l : List UInt8} {s : Nat} (hl : l.length = 64) (hs : s < 4) : (sec l s).length = 16 := by
  unfold sec; rw [List.length_take, List.length_drop]; omega
theorem secs_of {l : List UInt8} (hl : l.length = 64) : l = sec l 0 ++ (sec l 1 ++ (sec l 2 ++ sec l 3)) := by
  unfold sec
  have h3 : (l.drop (16 * 3)).take 16 = l.drop 48 := List.take_of_length_le (by rw [List.length_drop]; omega)
  have h0 := (List.take_append_drop 16 l).symm
  have h1 := (List.take_append_drop 16 (l.drop 16)).symm
  have h2 := (List.take_append_drop 16 (l.drop 32)).symm
  rw [List.drop_drop] at h1 h2
  rw [h3]
  simpa using h0.trans (by rw [← h2, ← h1])
theorem sec_app {a b c d : List UInt8} (ha : a.length = 16) (hb : b.length = 16) (hc : c.length = 16) (hd : d.length = 16) :
    sec (a ++ (b ++ (c ++ d))) 0 = a ∧ sec (a ++ (b ++ (c ++ d))) 1 = b ∧ sec (a ++ (b ++ (c ++ d))) 2 = c ∧ sec (a ++ (b ++ (c ++ d))) 3 = d := by
  unfold sec
  refine ⟨?_, ?_, ?_, ?_⟩
  · rw [Nat.mul_zero, List.drop_zero, List.take_append_of_le_length (by omega), List.take_of_length_le (by omega)]
  · rw [show 16 * 1 = a.length by omega, List.drop_left, List.take_append_of_le_length (by omega), List.take_of_length_le (by omega)]
  · rw [← List.append_assoc, show 16 * 2 = (a ++ b).length by rw [List.length_append]; omega, List.drop_left, List.take_append_of_le_length (by omega), List.take_of_length_le (by omega)]
  · rw [← List.append_assoc, ← List.append_assoc, show 16 * 3 = (a ++ b ++ c).length by rw [List.length_append, List.length_append]; omega, List.drop_left, List.take_of_length_le (by omega)]
/-- A block of sectors of two. -/
def mixS (m : Nat → Bool) (a b : List UInt8) (s : Nat) : List UInt8 := if m s then sec a s else sec b s
def mixB (m : Nat → Bool) (a b : List UInt8) : List UInt8 := (List.range 4).flatMap (mixS m a b)
theorem mixB_eq (m : Nat → Bool) (a b : List UInt8) : mixB m a b = mixS m a b 0 ++ (mixS m a b 1 ++ (mixS m a b 2 ++ mixS m a b 3)) := by simp [mixB, List.range_succ]
theorem mixS_length {m : Nat → Bool} {a b : List UInt8} {s : Nat} (ha : a.length = 64) (hb : b.length = 64) (hs : s < 4) : (mixS m a b s).length = 16 := by
  unfold mixS
  split
  · exact sec_length ha hs
  · exact sec_length hb hs
theorem sec_mix {m : Nat → Bool} {a b : List UInt8} {s : Nat} (ha : a.length = 64) (hb : b.length = 64) (hs : s < 4) : sec (mixB m a b) s = mixS m a b s := by
  obtain ⟨h0, h1, h2, h3⟩ := sec_app (mixS_length (m := m) (s := 0) ha hb (by decide)) (mixS_length (m := m) (s := 1) ha hb (by decide)) (mixS_length (m := m) (s := 2) ha hb (by decide)) (mixS_length (m := m) (s := 3) ha hb (by decide))
  rw [mixB_eq]
  have : s = 0 ∨ s = 1 ∨ s = 2 ∨ s = 3 := by omega
  rcases this with rfl | rfl | rfl | rfl
  · exact h0
  · exact h1
  · exact h2
  · exact h3
theorem mixB_length {m : Nat → Bool} {a b : List UInt8} (ha : a.length = 64) (hb : b.length = 64) : (mixB m a b).length = 64 := by
  rw [mixB_eq]
  simp only [List.length_append, mixS_length (m := m) (s := 0) ha hb (by decide), mixS_length (m := m) (s := 1) ha hb (by decide), mixS_length (m := m) (s := 2) ha hb (by decide), mixS_length (m := m) (s := 3) ha hb (by decide)]
theorem mixB_all {m : Nat → Bool} {a b : List UInt8} (ha : a.length = 64) (h : ∀ s, s < 4 → m s = true) : mixB m a b = a := by
  rw [mixB_eq]
  simp only [mixS, h 0 (by decide), h 1 (by decide), h 2 (by decide), h 3 (by decide), if_true]
  exact (secs_of ha).symm
theorem mixB_none {m : Nat → Bool} {a b : List UInt8} (hb : b.length = 64) (h : ∀ s, s < 4 → m s = false) : mixB m a b = b := by
  rw [mixB_eq]
  simp only [mixS, h 0 (by decide), h 1 (by decide), h 2 (by decide), h 3 (by decide), Bool.false_eq_true, if_false]
  exact (secs_of hb).symm
end Go.Proofs.YtlobkefacnedeaaDoor

/- DiskSure in plain lists: a sector behind a crash is that of the sure block, or of one of the queue's writes. -/
namespace Go.Proofs.YtlobkefacnedeaaDoor
open Go.RowKit
set_option maxRecDepth 100000

theorem sec_sect (l : List UInt8) (t : Nat) : sec l t = sect l t := by unfold sec sect; rw [Nat.mul_comm]
theorem sec_get (l : List UInt8) (t j : Nat) (hj : j < 16) : (sec l t)[j]? = l[16 * t + j]? := by
  unfold sec
  rw [List.getElem?_take_of_lt hj, List.getElem?_drop]
theorem spl_get (a b : List UInt8) (t k : Nat) (ha : a.length = 64) (hb : b.length = 64) (ht : t < 4) (hk : k < 64) : (spl a b t)[k]? = if t * 16 ≤ k ∧ k < t * 16 + 16 then b[k]? else a[k]? := by
  have l1 : (a.take (t * 16)).length = t * 16 := by rw [List.length_take]; omega
  have l2 := sect_len b t hb ht
  unfold spl
  by_cases h1 : k < t * 16
  · rw [List.append_assoc, List.getElem?_append_left (by omega), List.getElem?_take_of_lt h1, if_neg (by omega)]
  · by_cases h2 : k < t * 16 + 16
    · rw [if_pos (by omega), List.append_assoc, List.getElem?_append_right (by omega), List.getElem?_append_left (by omega), l1]
      unfold sect
      rw [List.getElem?_take_of_lt (by omega), List.getElem?_drop, show t * 16 + (k - t * 16) = k by omega]
    · rw [if_neg (by omega), List.getElem?_append_right (by rw [List.length_append]; omega), List.length_append, l1, l2, List.getElem?_drop, show t * 16 + 16 + (k - (t * 16 + 16)) = k by omega]
theorem sec_len (l : List UInt8) (t : Nat) (hl : l.length = 64) (ht : t < 4) : (sec l t).length = 16 := sec_length hl ht
theorem sec_spl (a b : List UInt8) (t s : Nat) (ha : a.length = 64) (hb : b.length = 64) (ht : t < 4) (hs : s < 4) : sec (spl a b t) s = if t = s then sec b s else sec a s := by
  have hl := spl_len a b t ha hb ht
  apply List.ext_getElem?
  intro j
  by_cases hj : j < 16
  · rw [sec_get _ _ _ hj, spl_get a b t _ ha hb ht (by omega)]
    by_cases e : t = s
    · subst e
      rw [if_pos rfl, if_pos (by omega), sec_get _ _ _ hj]
    · rw [if_neg e, if_neg (by omega), sec_get _ _ _ hj]
  · rw [List.getElem?_eq_none (by rw [sec_len _ _ hl hs]; omega)]
    split
    · rw [List.getElem?_eq_none (by rw [sec_len _ _ hb hs]; omega)]
    · rw [List.getElem?_eq_none (by rw [sec_len _ _ ha hs]; omega)]
/-- Each sector is one that was there, or one of these writes'. -/
def Among (q : List (Nat × List UInt8)) (l L : List (List UInt8)) : Prop := ∀ i s, s < 4 → sec (L.getD i []) s = sec (l.getD i []) s ∨ ∃ x ∈ q, x.1 = i ∧ sec (L.getD i []) s = sec x.2 s
theorem crash1_among {f : Nat → Bool} {q : List (Nat × List UInt8)} {x : Nat × List UInt8} {l L : List (List UInt8)} {n : Nat} (h : All64 n L) (hx : x.2.length = 64) (hn : x.1 < n) (hq : x ∈ q) (ha : Among q l L) : ∀ m, m ≤ 4 → Among q l (crash1 f x m L)
  | 0, _ => ha
  | m + 1, hm => by
    rw [crash1_step]
    have ih := crash1_among (f := f) h hx hn hq ha m (by omega)
    split
    · have h64 := crash1_64 (f := f) h hx hn m (by omega)
      intro i s hs
      unfold cutIn
      rw [List.getD_eq_getElem?_getD, List.getElem?_set]
      by_cases e : x.1 = i
      · subst e
        have hl : x.1 < (crash1 f x m L).length := by rw [h64.1]; exact hn
        have hg : ((crash1 f x m L).getD x.1 []).length = 64 := by
          rw [List.getD_eq_getElem?_getD, List.getElem?_eq_getElem hl]
          exact h64.2 _ (List.getElem_mem hl)
        rw [if_pos rfl, if_pos hl, Option.getD_some, sec_spl _ _ _ _ hg hx (by omega) hs]
        split
        · exact .inr ⟨x, hq, rfl, rfl⟩
        · exact ih x.1 s hs
      · rw [if_neg e, ← List.getD_eq_getElem?_getD]
        exact ih i s hs
    · exact ih
theorem crashN_among {f : Nat → Nat → Bool} {q : List (Nat × List UInt8)} {l : List (List UInt8)} {n : Nat} (h : All64 n l) (hq : ∀ x ∈ q, x.2.length = 64 ∧ x.1 < n) : ∀ m, m ≤ q.length → Among q l (crashN f q m l)
  | 0, _ => fun i s _ => .inl rfl
  | m + 1, hm => by
    have hx : q[m]? = some q[m] := List.getElem?_eq_getElem (by omega)
    have hmem := List.getElem_mem (show m < q.length by omega)
    obtain ⟨h1, h2⟩ := hq _ hmem
    rw [crashN_step f q m l _ hx]
    exact crash1_among (crashN_64 h hq m (by omega)) h1 h2 hmem (crashN_among h hq m (by omega)) 4 (Nat.le_refl _)
/-- What block i has had: what is sure, and the writes of the queue. -/
def hsOf (D : Dsk) (i : Nat) : List (List UInt8) := D.sure.getD i [] :: (D.queue.filter (fun x => x.1 == i)).map (·.2)
theorem hsOf_wrote (D : Dsk) (k : Nat) (b : List UInt8) (i : Nat) : hsOf (D.wrote k b) i = if i = k then hsOf D i ++ [b] else hsOf D i := by
  unfold hsOf Dsk.wrote Dsk.stepped
  simp only [List.filter_append, List.map_append]
  by_cases h : i = k
  · subst h; simp
  · have h' : ¬ k = i := fun e => h e.symm
    simp [h, h']
theorem sure_crash {D : Dsk} (h : D.Ok) (f : Nat → Nat → Bool) (cap : Nat) (pad : Array Value) (i s : Nat) (hs : s < 4) : ∃ b ∈ hsOf D i, sec ((D.crashed f cap pad).read i) s = sec b s := by
  have e : (D.crashed f cap pad).read i = (crashN f D.queue D.queue.length D.sure).getD i [] := rfl
  rw [e]
  rcases crashN_among (f := f) (n := D.sure.length) ⟨rfl, h.b⟩ h.q D.queue.length (Nat.le_refl _) i s hs with h1 | ⟨x, hx, rfl, h1⟩
  · exact ⟨_, List.mem_cons_self, h1⟩
  · exact ⟨x.2, List.mem_cons_of_mem _ (List.mem_map.2 ⟨x, List.mem_filter.2 ⟨hx, by simp⟩, rfl⟩), h1⟩
/-- The first writes. -/
def fill6 (j : Nat) : List UInt8 := round64 [UInt8.ofNat (j + 1), 7]
def up6 : Nat → Dsk
  | 0 => freshD 6
  | j + 1 => (up6 j).wrote j (fill6 j)
theorem up6_nums : ∀ j, (up6 j).steps = j ∧ (up6 j).queue.length = j ∧ (up6 j).left = -1 ∧ (up6 j).sure.length = 6
  | 0 => ⟨rfl, rfl, rfl, by show (List.replicate _ _).length = _; rw [List.length_replicate]⟩
  | j + 1 => by
    obtain ⟨h1, h2, h3, h4⟩ := up6_nums j
    refine ⟨by show (up6 j).steps + 1 = _; rw [h1], by show ((up6 j).queue ++ [_]).length = _; rw [List.length_append, h2]; rfl, by show max ((up6 j).left - 1) (-1) = _; rw [h3]; decide, h4⟩
def sure6 : Dsk := (up6 6).barred
theorem sure6_nums : sure6.steps = 7 ∧ sure6.queue = [] ∧ sure6.left = -1 ∧ sure6.sure.length = 6 := ⟨rfl, rfl, rfl, by unfold sure6; show (putQ _ _).length = _; rw [putQ_len]; exact (up6_nums 6).2.2.2⟩
theorem sure6_sure : sure6.sure = [fill6 0, fill6 1, fill6 2, fill6 3, fill6 4, fill6 5] := rfl
theorem sure6_hs (i : Nat) (hi : i < 6) : hsOf sure6 i = [fill6 i] := by
  unfold hsOf
  rw [sure6_nums.2.1, sure6_sure]
  have : i = 0 ∨ i = 1 ∨ i = 2 ∨ i = 3 ∨ i = 4 ∨ i = 5 := by omega
  rcases this with rfl | rfl | rfl | rfl | rfl | rfl <;> rfl
end Go.Proofs.YtlobkefacnedeaaDoor

/- A write that the power may cut off, in plain lists: what a crash leaves is the whole partial segment, or none. -/
namespace Go.Proofs.YtlobkefacnedeaaDoor
open Go.RowKit
set_option maxRecDepth 100000

/-- What block j has had. -/
def Has (D : Dsk) (j : Nat) (b : List UInt8) : Prop := b = D.sure.getD j [] ∨ (j, b) ∈ D.queue
theorem Has.done {D : Dsk} (h : D.queue = []) {j : Nat} {b : List UInt8} (hb : Has D j b) : b = D.read j := by
  rcases hb with rfl | hb
  · unfold Dsk.read; rw [h]; rfl
  · rw [h] at hb; simp at hb
theorem has_crash {D : Dsk} (h : D.Ok) (f : Nat → Nat → Bool) (cap : Nat) (pad : Array Value) (i s : Nat) (hs : s < 4) : ∃ b, Has D i b ∧ sec ((D.crashed f cap pad).read i) s = sec b s := by
  have e : (D.crashed f cap pad).read i = (crashN f D.queue D.queue.length D.sure).getD i [] := rfl
  rw [e]
  rcases crashN_among (f := f) (n := D.sure.length) ⟨rfl, h.b⟩ h.q D.queue.length (Nat.le_refl _) i s hs with h1 | ⟨x, hx, rfl, h1⟩
  · exact ⟨_, .inl rfl, h1⟩
  · exact ⟨x.2, .inr hx, h1⟩
theorem secs_same {l m : List UInt8} (hl : l.length = 64) (hm : m.length = 64) (h : ∀ s, s < 4 → sec l s = sec m s) : l = m := by
  rw [secs_of hl, secs_of hm, h 0 (by decide), h 1 (by decide), h 2 (by decide), h 3 (by decide)]
theorem putS_any : ∀ (bs : List (List UInt8)) (D : Dsk) (i : Nat), (∀ x ∈ D.queue, x.1 < D.sure.length) → i + bs.length ≤ D.sure.length →
    (putS D i bs).2.sure.length = D.sure.length ∧ (∀ x ∈ (putS D i bs).2.queue, x.1 < (putS D i bs).2.sure.length) ∧ (∀ j b, Has (putS D i bs).2 j b → Has D j b ∨ ∃ t, bs[t]? = some b ∧ j = i + t) ∧ ((putS D i bs).1 = 0 ∨ (putS D i bs).1 = 102) ∧
    ((putS D i bs).1 = 0 → ∀ j, (putS D i bs).2.read j = if i ≤ j ∧ j < i + bs.length then bs.getD (j - i) [] else D.read j)
  | [], D, i, hq, _ => ⟨rfl, hq, fun j b h => .inl h, .inl rfl, fun _ j => by rw [if_neg (by simp)]; rfl⟩
  | b :: bs, D, i, hq, hl => by
    rw [List.length_cons] at hl
    unfold putS
    by_cases h0 : D.left = 0
    · rw [if_pos h0]
      exact ⟨rfl, hq, fun j b h => .inl h, .inr rfl, fun h => absurd h (show ¬ (102 : Int) = 0 by decide)⟩
    · rw [if_neg h0]
      obtain ⟨h1, h2, h3, h4, h5⟩ := putS_any bs (D.wrote i b) (i + 1) (wrote_q2 hq (by omega) b) (by rw [wrote_len]; omega)
      refine ⟨h1, h2, fun j u hu => ?_, h4, fun h j => ?_⟩
      · rcases h3 j u hu with (h | h) | ⟨t, ht, rfl⟩
        · exact .inl (.inl h)
        · rcases List.mem_append.1 h with h | h
          · exact .inl (.inr h)
          · rw [List.mem_singleton, Prod.mk.injEq] at h
            exact .inr ⟨0, by rw [h.2]; rfl, h.1⟩
        · exact .inr ⟨t + 1, ht, by omega⟩
      · rw [h5 h j, read_wrote, List.length_cons]
        by_cases e : i = j
        · subst e
          rw [if_neg (by omega), if_pos rfl, if_pos (by omega), Nat.sub_self]
          rfl
        · rw [if_neg e]
          by_cases e2 : i + 1 ≤ j ∧ j < i + 1 + bs.length
          · rw [if_pos e2, if_pos (by omega)]
            obtain ⟨k, rfl⟩ : ∃ k, j = i + 1 + k := ⟨j - (i + 1), by omega⟩
            rw [show i + 1 + k - (i + 1) = k by omega, show i + 1 + k - i = k + 1 by omega]
            rfl
          · rw [if_neg e2, if_neg (by omega)]
theorem barS_any {D : Dsk} (hq : ∀ x ∈ D.queue, x.1 < D.sure.length) : barS D = (102, D) ∨ ((barS D).1 = 0 ∧ (barS D).2.queue = [] ∧ (barS D).2.sure.length = D.sure.length ∧ ∀ j, (barS D).2.read j = D.read j) := by
  by_cases h : D.left = 0
  · left; unfold barS; rw [if_pos h]
  · right
    refine ⟨?_, ?_, barS_len D, fun j => ?_⟩ <;> unfold barS <;> rw [if_neg h]
    · rfl
    · exact putQ_get D.queue D.sure j hq
/-- What stands behind a write that the power may have cut off: c is its answer. -/
structure Cut (D E : Dsk) (a x n : Nat) (c : Int) (h0 h1 : List UInt8) (bs : List (List UInt8)) : Prop where
  out : ∀ j b, Has E j b → ¬ (a ≤ j ∧ j < a + n) → j ≠ x → j ≠ x + 1 → b = D.read j
  h : (c = 102 ∧ ∀ j b, Has E j b → (j = a ∨ j = a + 1) → b = zero64) ∨
    ((∀ b, Has E a b → b = zero64 ∨ b = h0) ∧ (∀ b, Has E (a + 1) b → b = zero64 ∨ b = h1) ∧ (∀ t b u, bs[t]? = some u → Has E (a + 2 + t) b → b = u) ∧ (c = 0 → (∀ b, Has E a b → b = h0) ∧ ∀ b, Has E (a + 1) b → b = h1))
theorem andS_no {r : Int × Dsk} {f : Dsk → Int × Dsk} (h : r.1 = 102) : andS r f = r := by unfold andS; rw [if_neg (by rw [h]; decide)]
set_option maxHeartbeats 1000000 in
theorem wrS_cut {D : Dsk} (hQ : D.queue = []) {a x : Nat} {v : PV} {bs : List (List UInt8)} (hx : v.x = (x : Int)) (hck : v.ck = 0) (hf : fitS D (a : Int) v bs.length) (h64 : ¬ bs.any (fun b => b.length ≠ 64) = true) (z0 : D.read a = zero64) (z1 : D.read (a + 1) = zero64) :
    ((wrS D (a : Int) v bs).1 = 0 ∨ (wrS D (a : Int) v bs).1 = 102) ∧ Cut D (wrS D (a : Int) v bs).2 a x v.n (wrS D (a : Int) v bs).1 ((v.enc (crc bs.flatten)).take 64) ((v.enc (crc bs.flatten)).drop 64) bs := by
  have hv := PV.n_bd hck
  have hf' := hf
  unfold fitS at hf'
  rw [hx] at hf'
  have e : wrS D (a : Int) v bs = andS (putS D (a + 2) bs) fun D => andS (clrS D (x : Int)) fun D => andS (putS D a [(v.enc (crc bs.flatten)).take 64, (v.enc (crc bs.flatten)).drop 64]) barS := by
    unfold wrS
    rw [if_neg (by rw [hck]; decide), if_neg (fun h => h hf), if_neg h64, Int.toNat_natCast, hx]
  rw [e]
  clear e hf h64
  generalize (v.enc (crc bs.flatten)).take 64 = h0
  generalize (v.enc (crc bs.flatten)).drop 64 = h1
  have hn : bs.length = v.n - 2 ∧ a + v.n ≤ D.sure.length ∧ x + 2 ≤ D.sure.length ∧ (a + v.n ≤ x ∨ x + 2 ≤ a) := by omega
  obtain ⟨n1, n2, n3, n4⟩ := hn
  generalize v.n = n at *
  clear hf' hx hck
  have hq0 : ∀ x ∈ D.queue, x.1 < D.sure.length := by rw [hQ]; simp
  obtain ⟨p1, p2, p3, p4, p5⟩ := putS_any bs D (a + 2) hq0 (by omega)
  generalize putS D (a + 2) bs = R1 at *
  have q3 : ∀ j b, Has R1.2 j b → b = D.read j ∨ ∃ t, bs[t]? = some b ∧ j = a + 2 + t := fun j b h => (p3 j b h).imp (fun h => h.done hQ) id
  have tb : ∀ (t : Nat) (b : List UInt8), bs[t]? = some b → t < bs.length := fun t b h => (List.getElem?_eq_some_iff.1 h).1
  have A1 : Cut D R1.2 a x n 102 h0 h1 bs := ⟨fun j b hb hj k1 k2 => (q3 j b hb).resolve_right (fun ⟨t, ht, e⟩ => by have := tb t b ht; omega), .inl ⟨rfl, fun j b hb hj => by
    rcases q3 j b hb with rfl | ⟨t, ht, e⟩
    · rcases hj with rfl | rfl
      · exact z0
      · exact z1
    · omega⟩⟩
  rcases p4 with p4 | p4
  rotate_left
  · rw [andS_no p4, p4]
    exact ⟨.inr rfl, A1⟩
  rw [andS_ok p4]
  replace p5 := p5 p4
  -- zeros at the next place
  have ec : clrS R1.2 (x : Int) = andS (putS R1.2 x [zero64, zero64]) barS := by
    unfold clrS
    rw [if_neg (by rw [p1]; omega), Int.toNat_natCast]
  rw [ec]
  obtain ⟨r1, r2, r3, r4, r5⟩ := putS_any [zero64, zero64] R1.2 x p2 (by rw [p1]; simp only [List.length_cons, List.length_nil]; omega)
  generalize putS R1.2 x [zero64, zero64] = R2 at *
  have s3 : ∀ j b, Has R2.2 j b → (b = D.read j ∨ ∃ t, bs[t]? = some b ∧ j = a + 2 + t) ∨ j = x ∨ j = x + 1 := fun j b h => (r3 j b h).imp (q3 j b) (fun ⟨t, ht, e⟩ => by have := (List.getElem?_eq_some_iff.1 ht).1; simp only [List.length_cons, List.length_nil] at this; omega)
  have A2 : Cut D R2.2 a x n 102 h0 h1 bs := ⟨fun j b hb hj k1 k2 => by
    rcases s3 j b hb with (h | ⟨t, ht, e⟩) | h
    · exact h
    · have := tb t b ht; omega
    · omega, .inl ⟨rfl, fun j b hb hj => by
    rcases s3 j b hb with (rfl | ⟨t, ht, e⟩) | h
    · rcases hj with rfl | rfl
      · exact z0
      · exact z1
    · omega
    · omega⟩⟩
  rcases r4 with r4 | r4
  rotate_left
  · rw [andS_no r4, andS_no r4, r4]
    exact ⟨.inr rfl, A2⟩
  rw [andS_ok r4]
  replace r5 := r5 r4
  rcases barS_any r2 with hb | ⟨b1, b2, b3, b4⟩
  · rw [hb, andS_no rfl]
    exact ⟨.inr rfl, A2⟩
  rw [andS_ok b1]
  generalize barS R2.2 = R3 at *
  have rd : ∀ j, R3.2.read j = if x ≤ j ∧ j < x + 2 then zero64 else if a + 2 ≤ j ∧ j < a + 2 + bs.length then bs.getD (j - (a + 2)) [] else D.read j := fun j => by
    rw [b4, r5 j]
    by_cases hj : x ≤ j ∧ j < x + 2
    · rw [if_pos hj, if_pos (by simpa using hj)]
      rcases (show j = x ∨ j = x + 1 by omega) with rfl | rfl
      · rw [Nat.sub_self]; rfl
      · rw [Nat.add_sub_cancel_left]; rfl
    · rw [if_neg hj, if_neg (by simpa using hj), p5 j]
  have hq3 : ∀ y ∈ R3.2.queue, y.1 < R3.2.sure.length := by rw [b2]; simp
  have l3 : R3.2.sure.length = D.sure.length := by rw [b3, r1, p1]
  obtain ⟨u1, u2, u3, u4, u5⟩ := putS_any [h0, h1] R3.2 a hq3 (by rw [l3]; simp only [List.length_cons, List.length_nil]; omega)
  generalize putS R3.2 a [h0, h1] = R4 at *
  have v3 : ∀ j b, Has R4.2 j b → b = R3.2.read j ∨ (j = a ∧ b = h0) ∨ (j = a + 1 ∧ b = h1) := fun j b h => (u3 j b h).imp (fun h => h.done b2) (fun ⟨t, ht, e⟩ => by
    match t, ht, e with
    | 0, ht, e => exact .inl ⟨e, (Option.some.inj ht).symm⟩
    | 1, ht, e => exact .inr ⟨e, (Option.some.inj ht).symm⟩)
  have ra : R3.2.read a = zero64 := by rw [rd, if_neg (by omega), if_neg (by omega), z0]
  have ra1 : R3.2.read (a + 1) = zero64 := by rw [rd, if_neg (by omega), if_neg (by omega), z1]
  have rt : ∀ t u, bs[t]? = some u → R3.2.read (a + 2 + t) = u := fun t u hu => by
    have := tb t u hu
    rw [rd, if_neg (by omega), if_pos (by omega), Nat.add_sub_cancel_left, List.getD_eq_getElem?_getD, hu]
    rfl
  have ro : ∀ j, ¬ (a ≤ j ∧ j < a + n) → j ≠ x → j ≠ x + 1 → R3.2.read j = D.read j := fun j hj k1 k2 => by rw [rd, if_neg (by omega), if_neg (by omega)]
  have A3 : Cut D R4.2 a x n 102 h0 h1 bs := ⟨fun j b hb hj k1 k2 => by
    rcases v3 j b hb with rfl | ⟨rfl, -⟩ | ⟨rfl, -⟩
    · exact ro j hj k1 k2
    · omega
    · omega, .inr ⟨fun b hb => by
      rcases v3 a b hb with rfl | ⟨-, h⟩ | ⟨h, -⟩
      · exact .inl ra
      · exact .inr h
      · omega, fun b hb => by
      rcases v3 (a + 1) b hb with rfl | ⟨h, -⟩ | ⟨-, h⟩
      · exact .inl ra1
      · omega
      · exact .inr h, fun t b u hu hb => by
      rcases v3 _ b hb with rfl | ⟨h, -⟩ | ⟨h, -⟩
      · exact rt t u hu
      · omega
      · omega, fun h => absurd h (by decide)⟩⟩
  rcases u4 with u4 | u4
  rotate_left
  · rw [andS_no u4, u4]
    exact ⟨.inr rfl, A3⟩
  rw [andS_ok u4]
  replace u5 := u5 u4
  rcases barS_any u2 with hb | ⟨c1, c2, c3, c4⟩
  · rw [hb]
    exact ⟨.inr rfl, A3⟩
  refine ⟨.inl c1, ?_⟩
  rw [c1]
  have w3 : ∀ j b, Has (barS R4.2).2 j b → b = if a ≤ j ∧ j < a + 2 then [h0, h1].getD (j - a) [] else R3.2.read j := fun j b h => by
    rw [h.done c2, c4, u5 j]
    simp only [List.length_cons, List.length_nil, Nat.zero_add]
  have wa : ∀ b, Has (barS R4.2).2 a b → b = h0 := fun b hb => by
    rw [w3 a b hb, if_pos (by omega), Nat.sub_self]; rfl
  have wb : ∀ b, Has (barS R4.2).2 (a + 1) b → b = h1 := fun b hb => by
    rw [w3 _ b hb, if_pos (by omega), Nat.add_sub_cancel_left]; rfl
  exact ⟨fun j b hb hj k1 k2 => by rw [w3 j b hb, if_neg (by omega), ro j hj k1 k2], .inr ⟨fun b hb => .inr (wa b hb), fun b hb => .inr (wb b hb), fun t b u hu hb => by rw [w3 _ b hb, if_neg (by omega), rt t u hu], fun _ => ⟨wa, wb⟩⟩⟩
theorem b8_nz {n : Int} (h1 : 1 ≤ n) (h2 : n ≤ 64) : b8 n ≠ 0 := fun h => by
  have := b8_val n
  rw [h] at this
  have e : ((0 : UInt8).toNat : Int) = 0 := rfl
  omega
theorem encNz {v : PV} (h : v.ck = 0) (z : Nat) {s : Nat} (hs : s < 8) : ∃ (k : Nat) (u : UInt8), k < 16 ∧ (((v.enc z).drop (16 * s)).take 16)[k]? = some u ∧ u ≠ 0 := by
  obtain ⟨⟨⟨h1, h2, h3, h4, h5⟩, hf, hi⟩, hz⟩ := PV.gd h
  have hw : (wordsB v.i v.p v.x v.fs v.is z).length = 88 := wordsB_len hz
  have he := encB_at (e := v.e) (c := v.c) hw hs
  have hl := secB_len (e := v.e) (c := v.c) hw hs
  have : ((v.enc z).drop (16 * s)).take 16 = secB v.e v.c (wordsB v.i v.p v.x v.fs v.is z) s := by
    unfold PV.enc
    rw [he, List.take_append_of_le_length (by omega), List.take_of_length_le (by omega)]
  rw [this]
  by_cases h0 : s = 0
  · subst h0
    exact ⟨6, b8 v.p, by decide, rfl, b8_nz h3.1 h3.2⟩
  · exact ⟨4, b8 s, by decide, rfl, b8_nz (by omega) (by omega)⟩
theorem zero_at : ∀ s, s < 4 → ∀ k, k < 16 → (sec zero64 s)[k]? = some 0 := by
  intro s hs k hk
  unfold sec zero64
  rw [List.getElem?_take_of_lt hk, List.getElem?_drop, List.getElem?_replicate, if_pos (by omega)]
/-- A good summary has no sector of zeros. -/
theorem enc_nz {l0 l1 : List UInt8} (h0 : l0.length = 64) (h1 : l1.length = 64) {y : PV} {z : Nat} (h : decS (l0 ++ l1) = some (y, z)) : (∀ s, s < 4 → sec l0 s ≠ sec zero64 s) ∧ ∀ s, s < 4 → sec l1 s ≠ sec zero64 s := by
  obtain ⟨hy, hz, e⟩ := decS_some h
  constructor
  · intro s hs hn
    obtain ⟨k, u, hk, hu, hne⟩ := encNz hy z (show s < 8 by omega)
    rw [← e, List.drop_append_of_le_length (by omega), List.take_append_of_le_length (by rw [List.length_drop]; omega)] at hu
    have hn' : (l0.drop (16 * s)).take 16 = sec zero64 s := hn
    rw [hn', zero_at s hs k hk] at hu
    exact hne (Option.some.inj hu).symm
  · intro s hs hn
    obtain ⟨k, u, hk, hu, hne⟩ := encNz hy z (show 4 + s < 8 by omega)
    rw [← e, show 16 * (4 + s) = l0.length + 16 * s by omega, List.drop_append, List.drop_of_length_le (by omega), List.nil_append, show l0.length + 16 * s - l0.length = 16 * s by omega] at hu
    have hn' : (l1.drop (16 * s)).take 16 = sec zero64 s := hn
    rw [hn', zero_at s hs k hk] at hu
    exact hne (Option.some.inj hu).symm
/-- A crash behind a write: what isn't its own stays; what is read there is the whole of it, or nothing. -/
theorem cut_crash {D E : Dsk} {a x : Nat} {v : PV} {c : Int} {bs : List (List UInt8)} (hE : E.Ok) (hl : E.sure.length = D.sure.length) (hD : ∀ j, j < D.sure.length → (D.read j).length = 64) (hck : v.ck = 0) (hn : bs.length = v.n - 2) (ha : a + v.n ≤ D.sure.length) (h64 : ∀ b ∈ bs, b.length = 64)
    (hc : Cut D E a x v.n c ((v.enc (crc bs.flatten)).take 64) ((v.enc (crc bs.flatten)).drop 64) bs) {C : Dsk} (hC : ∀ i s, s < 4 → ∃ b, Has E i b ∧ sec (C.read i) s = sec b s) (hCl : C.sure.length = D.sure.length) (hCr : ∀ j, j < D.sure.length → (C.read j).length = 64) :
    (∀ j, j < D.sure.length → ¬ (a ≤ j ∧ j < a + v.n) → j ≠ x → j ≠ x + 1 → C.read j = D.read j) ∧ ((rdS C (a : Int)).1 = 0 → rdS C (a : Int) = (0, v, bs)) ∧ (c = 0 → (rdS C (a : Int)).1 = 0) := by
  have hv := PV.n_bd hck
  have hel := PV.enc_len hck (crc bs.flatten)
  obtain ⟨H0, e0⟩ : ∃ H, H = (v.enc (crc bs.flatten)).take 64 := ⟨_, rfl⟩
  obtain ⟨H1, e1⟩ : ∃ H, H = (v.enc (crc bs.flatten)).drop 64 := ⟨_, rfl⟩
  have l0 : H0.length = 64 := by rw [e0, List.length_take]; omega
  have l1 : H1.length = 64 := by rw [e1, List.length_drop]; omega
  rw [← e0, ← e1] at hc
  have whole : (∃ y, decS (C.read a ++ C.read (a + 1)) = some y) ∨ c = 0 → rdS C (a : Int) = (0, v, bs) := by
    intro hy
    rcases hc.h with ⟨k1, k2⟩ | ⟨k1, k2, k3, k4⟩
    · exfalso
      have zz : ∀ j, (j = a ∨ j = a + 1) → C.read j = zero64 := fun j hj => by
        refine secs_same (hCr j (by omega)) rfl (fun s hs => ?_)
        obtain ⟨b, hb, e⟩ := hC j s hs
        rw [e, k2 j b hb hj]
      rcases hy with ⟨y, hy⟩ | hy
      · rw [zz a (.inl rfl), zz (a + 1) (.inr rfl), zero_no] at hy
        cases hy
      · rw [hy] at k1
        exact absurd k1 (by decide)
    · have hh : C.read a = H0 ∧ C.read (a + 1) = H1 := by
        rcases hy with ⟨⟨y, z⟩, hy⟩ | hy
        · obtain ⟨m0, m1⟩ := enc_nz (hCr a (by omega)) (hCr (a + 1) (by omega)) hy
          constructor
          · refine secs_same (hCr a (by omega)) l0 (fun s hs => ?_)
            obtain ⟨b, hb, e⟩ := hC a s hs
            rcases k1 b hb with rfl | rfl
            · exact absurd e (m0 s hs)
            · exact e
          · refine secs_same (hCr (a + 1) (by omega)) l1 (fun s hs => ?_)
            obtain ⟨b, hb, e⟩ := hC (a + 1) s hs
            rcases k2 b hb with rfl | rfl
            · exact absurd e (m1 s hs)
            · exact e
        · obtain ⟨m0, m1⟩ := k4 hy
          constructor
          · refine secs_same (hCr a (by omega)) l0 (fun s hs => ?_)
            obtain ⟨b, hb, e⟩ := hC a s hs
            rw [e, m0 b hb]
          · refine secs_same (hCr (a + 1) (by omega)) l1 (fun s hs => ?_)
            obtain ⟨b, hb, e⟩ := hC (a + 1) s hs
            rw [e, m1 b hb]
      refine rdS_wrS (D := C) hck hn (by rw [hCl]; exact ha) (by rw [hh.1, e0]) (by rw [hh.2, e1]) (fun j hj => ?_)
      have hj' : j < bs.length := by omega
      have hu : bs[j]? = some bs[j] := List.getElem?_eq_getElem hj'
      rw [List.getD_eq_getElem?_getD, hu, Option.getD_some]
      refine secs_same (hCr _ (by omega)) (h64 _ (List.getElem_mem hj')) (fun s hs => ?_)
      obtain ⟨b, hb, e⟩ := hC _ s hs
      rw [e, k3 j b _ hu hb]
  refine ⟨fun j hj h1 h2 h3 => ?_, fun h => whole (.inl ?_), fun h => by rw [whole (.inr h)]⟩
  · refine secs_same (hCr j hj) (hD j hj) (fun s hs => ?_)
    obtain ⟨b, hb, e⟩ := hC j s hs
    rw [e, hc.out j b hb h1 h2 h3]
  · unfold rdS at h
    split at h
    · exact absurd h (by decide)
    · rw [Int.toNat_natCast] at h
      split at h
      · exact absurd h (by decide)
      · rename_i y z hy
        exact ⟨_, hy⟩
end Go.Proofs.YtlobkefacnedeaaDoor

/- The last loop of marllaw15.SegWhole, as a declaration of its own (printed by gen_sgwl.py). -/
namespace Go.Proofs.YtlobkefacnedeaaDoor
open Go.RowKit
set_option maxRecDepth 100000
attribute [local go_sem ↓] Go.wp_at_zero Go.wp_at_succ

def Old (B : Nat) (W : World) (d : Nat) (C : Dsk) : Prop := ∃ s v, DskA W B d s v C
theorem Old.below {B d : Nat} {W W' : World} {C : Dsk} (h : Old B W d C) (hb : Below W.heap.size W W') : Old B W' d C := by
  obtain ⟨s, v, hD⟩ := h
  exact ⟨s, v, dsk_kp hD (Kp.of_below (gs := []) hb) (by simp) (by simp) (by simp)⟩
theorem Old.kp {B d : Nat} {W W' : World} {C : Dsk} (h : Old B W d C) {gs : List Nat} (hk : Kp gs W W') (hn : ∀ k, B ≤ k → k < W.heap.size → k ∉ gs) : Old B W' d C := by
  obtain ⟨s, v, hD⟩ := h
  exact ⟨s, v, dsk_keep hD hk hn⟩
theorem Old.ld {B d : Nat} {w0 W : World} {C : Dsk} (h : Old B W d C) (hb : w0.heap.size ≤ B) (hw : Below w0.heap.size w0 W) : LD w0 W d C := by
  obtain ⟨s, v, hD⟩ := h
  exact ⟨⟨s, v, ⟨hD.hd, hD.hs, own_bq hD.hq hb, hD.ne, hD.nq, Nat.le_trans hb hD.db, Nat.le_trans hb hD.sb, hD.ok⟩⟩, hw⟩
/-- What is known of a piece. -/
structure PcK (w : World) (v : PV) (A1 : Option Addr) (n1 : Nat) (A2 : Option Addr) (n2 : Nat) (A3 : Option Addr) (m c3 : Nat) (data : List UInt8) : Prop where
  f : FisAt 0 w.heap.size w A1 n1 v.fs
  i : IntsAt 0 w.heap.size w A2 n2 v.is
  d : By w w.heap.size A3 m data
  hc : m ≤ c3
  h1 : n1 ≤ 9223372036854775807
  h2 : n2 ≤ 9223372036854775807
  h3 : m ≤ 9223372036854775807
  hl : ∀ f ∈ v.fs, (∀ x ∈ f.ls, I64 x) ∧ f.ls.length ≤ 9223372036854775807
theorem PcK.below {w w' : World} {v : PV} {A1 A2 A3 : Option Addr} {n1 n2 m c3 : Nat} {data : List UInt8} (h : PcK w v A1 n1 A2 n2 A3 m c3 data) (hb : Below w.heap.size w w') : PcK w' v A1 n1 A2 n2 A3 m c3 data :=
  ⟨(h.f.below hb).base_ hb.size, (RwAt.below h.i hb).base_ hb.size, (h.d.below hb).more hb.size, h.hc, h.h1, h.h2, h.h3, h.hl⟩

def loopsOf : Code → List Code
  | .loop c => [c]
  | .seq a b => loopsOf a ++ loopsOf b
  | .block _ c => loopsOf c
  | .scope c => loopsOf c
  | .cond _ a b => loopsOf a ++ loopsOf b
  | _ => []
set_option maxRecDepth 1000000 in
set_option maxHeartbeats 16000000 in
theorem wh_loop (w7 w10 wr vv : World) (at_ x p1 p2 q d1 d2 d3 d0 dd g4 nb : Nat) (u : PV) (B1 B2 B3 : Option Addr) (data' : List UInt8) (C C0 D2 : Dsk) (qq : Int)
    (HU : Hid (PcK w7 u B1 p1 B2 p2 B3 q d3 data')) (X47 : Hid (Blk w7 g4 28 #[.int .i64 (at_ : Int), .int .i64 u.e, .int .i64 u.c, .int .i64 u.i, .int .i64 u.p, .int .i64 u.x, .slice B1 p1 d1, .slice B2 p2 d2, .slice B3 q d3])) (HC0 : Hid (C0.sure.length = 300 ∧ ∀ j, C0.read j = D2.read j)) (S10 : Hid (w7.heap.size ≤ w10.heap.size)) (HLN : Hid (u.fs.length = p1 ∧ u.is.length = p2))
    (HK : Hid (u.x = (x : Int) ∧ u.ck = 0 ∧ nb = u.n - 2 ∧ at_ + u.n ≤ 300 ∧ x + 2 ≤ 300)) (HAT : Hid (130 ≤ at_ ∧ at_ < 160)) (h40 : p1 ≤ 40) (h120 : p2 ≤ 120) (hls2 : lsN u.fs ≤ 120)
    (HCC : Hid ((∀ j, j < 300 → ¬(at_ ≤ j ∧ j < at_ + u.n) → j ≠ x → j ≠ x + 1 → C.read j = D2.read j) ∧ ((rdS C (at_ : Int)).1 = 0 → rdS C (at_ : Int) = (0, u, blkS nb data')) ∧ (qq = 0 → (rdS C (at_ : Int)).1 = 0)))
    (HCL : Hid (C.sure.length = 300)) (R0 : Hid (∀ j, j < 300 → (D2.read j).length = 64)) (OD : Hid (Old w10.heap.size vv d0 C0)) (L13 : Hid (LD wr vv dd C)) (B13 : Hid (Below w7.heap.size w7 vv))
    (c0 c1 c2 c3 c5 c7 c8 c9 c11 c12 c13 c15 c16 c23 c24 c25 c26 c27 c28 c29 c30 c31 c32 c33 c34 c35 c36 c37 c38 c39 c40 c41 c42 c43 c44 c45 c46 c47 c48 c49 c50 c51 c52 c53 c54 c55 c56 c57 c58 c59 c60 c61 c62 c63 c64 c65 c66 c67 c68 c69 c70 c71 c72 c73 c74 c75 c76 c77 c78 c79 c80 c81 c82 c83 c84 c85 c86 c87 c88 c89 c90 c91 c92 c93 c94 c95 c96 c97 c98 c99 c100 c101 c102 c103 c104 c105 c106 c107 c108 c109 c110 c111 c112 c113 c114 c115 c116 c117 c118 c119 c120 c121 c122 c123 c124 c125 c126 c127 c128 c129 c130 c131 c132 c133 c134 c135 c136 c137 c138 c139 c140 c141 c142 c143 c144 c145 c146 c147 c148 c149 c150 c151 c152 c153 c154 c155 c156 c157 c158 c159 u6 u18 u19 u20 u21 u22 u160 u161 u162 u163 u164 u165 u166 u167 u168 u169 u170 u171 u172 u173 u174 u175 u176 u177 u178 u179 u180 u181 u182 u183 u184 u185 u186 u187 u188 u189 u190 u191 u192 u193 u194 u195 u196 u197 u198 u199 u200 u201 u202 u203 u204 u205 u206 u207 u208 u209 u210 u211 u212 u213 : Value) (Q0 : Exit → Act → World → Prop) (hexit : ∀ (u6 u17 u18 u19 u20 u21 u22 u160 u161 u162 u163 u164 u165 u166 u167 u168 u169 u170 u171 u172 u173 u174 u175 u176 u177 u178 u179 u180 u181 u182 u183 u184 u185 u186 u187 u188 u189 u190 u191 u192 u193 u194 u195 u196 u197 u198 u199 u200 u201 u202 u203 u204 u205 u206 u207 u208 u209 u210 u211 u212 u213 : Value) (w'' : World), Below vv.heap.size vv w'' → Q0 (.exit 2) ⟨(c0 :: c1 :: c2 :: c3 :: .pointer (some ⟨g4, 0, none⟩) :: c5 :: u6 :: c7 :: c8 :: c9 :: .pointer (some ⟨d0, 0, none⟩) :: c11 :: c12 :: c13 :: .pointer (some ⟨dd, 0, none⟩) :: c15 :: c16 :: u17 :: u18 :: u19 :: u20 :: u21 :: u22 :: c23 :: c24 :: c25 :: c26 :: c27 :: c28 :: c29 :: c30 :: c31 :: c32 :: c33 :: c34 :: c35 :: c36 :: c37 :: c38 :: c39 :: c40 :: c41 :: c42 :: c43 :: c44 :: c45 :: c46 :: c47 :: c48 :: c49 :: c50 :: c51 :: c52 :: c53 :: c54 :: c55 :: c56 :: c57 :: c58 :: c59 :: c60 :: c61 :: c62 :: c63 :: c64 :: c65 :: c66 :: c67 :: c68 :: c69 :: c70 :: c71 :: c72 :: c73 :: c74 :: c75 :: c76 :: c77 :: c78 :: c79 :: c80 :: c81 :: c82 :: c83 :: c84 :: c85 :: c86 :: c87 :: c88 :: c89 :: c90 :: c91 :: c92 :: c93 :: c94 :: c95 :: c96 :: c97 :: c98 :: c99 :: c100 :: c101 :: c102 :: c103 :: c104 :: c105 :: c106 :: c107 :: c108 :: c109 :: c110 :: c111 :: c112 :: c113 :: c114 :: c115 :: c116 :: c117 :: c118 :: c119 :: c120 :: c121 :: c122 :: c123 :: c124 :: c125 :: c126 :: c127 :: c128 :: c129 :: c130 :: c131 :: c132 :: c133 :: c134 :: c135 :: c136 :: c137 :: c138 :: c139 :: c140 :: c141 :: c142 :: c143 :: c144 :: c145 :: c146 :: c147 :: c148 :: c149 :: c150 :: c151 :: c152 :: c153 :: c154 :: c155 :: c156 :: c157 :: c158 :: c159 :: u160 :: u161 :: u162 :: u163 :: u164 :: u165 :: u166 :: u167 :: u168 :: u169 :: u170 :: u171 :: u172 :: u173 :: u174 :: u175 :: u176 :: u177 :: u178 :: u179 :: u180 :: u181 :: u182 :: u183 :: u184 :: u185 :: u186 :: u187 :: u188 :: u189 :: u190 :: u191 :: u192 :: u193 :: u194 :: u195 :: u196 :: u197 :: u198 :: u199 :: u200 :: u201 :: u202 :: u203 :: u204 :: u205 :: u206 :: u207 :: u208 :: u209 :: u210 :: u211 :: u212 :: u213 :: [] : List Value).toArray, []⟩ w'') :
    Code.wp Tryd.prog (Code.loop (((Tryd.f6.body.map loopsOf).getD []).getD 1 .skip)) Q0 ⟨(c0 :: c1 :: c2 :: c3 :: .pointer (some ⟨g4, 0, none⟩) :: c5 :: u6 :: c7 :: c8 :: c9 :: .pointer (some ⟨d0, 0, none⟩) :: c11 :: c12 :: c13 :: .pointer (some ⟨dd, 0, none⟩) :: c15 :: c16 :: .int .i64 0 :: u18 :: u19 :: u20 :: u21 :: u22 :: c23 :: c24 :: c25 :: c26 :: c27 :: c28 :: c29 :: c30 :: c31 :: c32 :: c33 :: c34 :: c35 :: c36 :: c37 :: c38 :: c39 :: c40 :: c41 :: c42 :: c43 :: c44 :: c45 :: c46 :: c47 :: c48 :: c49 :: c50 :: c51 :: c52 :: c53 :: c54 :: c55 :: c56 :: c57 :: c58 :: c59 :: c60 :: c61 :: c62 :: c63 :: c64 :: c65 :: c66 :: c67 :: c68 :: c69 :: c70 :: c71 :: c72 :: c73 :: c74 :: c75 :: c76 :: c77 :: c78 :: c79 :: c80 :: c81 :: c82 :: c83 :: c84 :: c85 :: c86 :: c87 :: c88 :: c89 :: c90 :: c91 :: c92 :: c93 :: c94 :: c95 :: c96 :: c97 :: c98 :: c99 :: c100 :: c101 :: c102 :: c103 :: c104 :: c105 :: c106 :: c107 :: c108 :: c109 :: c110 :: c111 :: c112 :: c113 :: c114 :: c115 :: c116 :: c117 :: c118 :: c119 :: c120 :: c121 :: c122 :: c123 :: c124 :: c125 :: c126 :: c127 :: c128 :: c129 :: c130 :: c131 :: c132 :: c133 :: c134 :: c135 :: c136 :: c137 :: c138 :: c139 :: c140 :: c141 :: c142 :: c143 :: c144 :: c145 :: c146 :: c147 :: c148 :: c149 :: c150 :: c151 :: c152 :: c153 :: c154 :: c155 :: c156 :: c157 :: c158 :: c159 :: u160 :: u161 :: u162 :: u163 :: u164 :: u165 :: u166 :: u167 :: u168 :: u169 :: u170 :: u171 :: u172 :: u173 :: u174 :: u175 :: u176 :: u177 :: u178 :: u179 :: u180 :: u181 :: u182 :: u183 :: u184 :: u185 :: u186 :: u187 :: u188 :: u189 :: u190 :: u191 :: u192 :: u193 :: u194 :: u195 :: u196 :: u197 :: u198 :: u199 :: u200 :: u201 :: u202 :: u203 :: u204 :: u205 :: u206 :: u207 :: u208 :: u209 :: u210 :: u211 :: u212 :: u213 :: [] : List Value).toArray, []⟩ vv := by
  have HEXIT := hide hexit
  clear hexit
  conv => arg 2; arg 1; whnf
  have SB := hide (show ∀ W, Below w7.heap.size w7 W → Calls Tryd.prog 27 #[.agg (partC u.e u.c u.i u.p u.x B1 p1 d1 B2 p2 d2)] W fun r w' => r = .returned (.int .i64 ((u.n : Nat) : Int)) ∧ Below W.heap.size W w' from fun W hb => by
    have hnv : 2 + p2 + lsN u.fs = u.n := by unfold PV.n; rw [HLN.out.2]
    rw [← hnv]
    exact sblocks_any u.e u.c u.i u.p u.x B1 B2 p1 d1 p2 d2 _ _ u.fs W (HU.out.f.bx hb) (by omega) (by omega) (by omega))
  unfold partC at SB
  go_wp2_with fail
  go_loopw [17] (fun y wz => ∃ i : Nat, i ≤ 300 ∧ y = .int .i64 (i : Int) ∧ Below vv.heap.size vv wz) (fun y _ => 300 - (intOf y).toNat)
  case atStart => exact ⟨0, Nat.zero_le _, rfl, Below.refl _ _⟩
  case round =>
    obtain ⟨i2, hi2, rfl, hbr2⟩ := hrel
    have BR2 := hide hbr2
    clear hbr2
    by_cases hlt2 : i2 < 300
    rotate_left
    · have h4 : ¬ (i2 : Int) < 300 := by omega
      go_wp2_with fail
      exact HEXIT.out _ _ _ _ _ _ _ _ _ _ _ _ _ _ _ _ _ _ _ _ _ _ _ _ _ _ _ _ _ _ _ _ _ _ _ _ _ _ _ _ _ _ _ _ _ _ _ _ _ _ _ _ _ _ _ _ _ _ _ _ _ _ BR2.out
    have h4 : (i2 : Int) < 300 := by omega
    go_wp2_with fail
    refine (ld_read ((OD.out.below BR2.out).ld S10.out (B13.out.trans (BR2.out.mono B13.out.size))) i2 (by rw [HC0.out.1]; exact hlt2)).mono ?_
    rintro r va ⟨gx, rfl, -, hbx, hblx⟩
    have XX := hide hbx
    replace BR2 := hide (BR2.out.trans (hblx.mono BR2.out.size))
    clear hbx hblx
    go_wp2_with fail
    refine (ld_read (L13.out.below BR2.out) i2 (by rw [HCL.out]; exact hlt2)).mono ?_
    rintro r vb ⟨gy, rfl, -, hby, hbly⟩
    have XY := hide hby
    replace XX := hide (XX.out.below hbly)
    replace BR2 := hide (BR2.out.trans (hbly.mono BR2.out.size))
    clear hby hbly
    go_upto_region 30 with fail
    go_cut [22] from 176 to 204 (fun y wx => ∃ b : Bool, y = .bool b ∧ (b = false → C.read i2 = D2.read i2) ∧ Below vb.heap.size vb wx)
    case first =>
      have hcc := op9S (X47.out.below (B13.out.trans (BR2.out.mono B13.out.size)))
      refine wp_region_noPanic ?_
      refine wp_region_held_drew (S := (fun w' => w'.cell? ⟨g4, 0, none⟩ = some (.int .i64 (at_ : Int)) ∧ w'.cell? ⟨g4, 1, none⟩ = some (.int .i64 u.e) ∧ w'.cell? ⟨g4, 2, none⟩ = some (.int .i64 u.c) ∧ w'.cell? ⟨g4, 3, none⟩ = some (.int .i64 u.i) ∧ w'.cell? ⟨g4, 4, none⟩ = some (.int .i64 u.p) ∧ w'.cell? ⟨g4, 5, none⟩ = some (.int .i64 u.x) ∧ w'.cell? ⟨g4, 6, none⟩ = some (.slice B1 p1 d1) ∧ w'.cell? ⟨g4, 7, none⟩ = some (.slice B2 p2 d2) ∧ w'.cell? ⟨g4, 8, none⟩ = some (.slice B3 q d3))) (by kernel_rfl) ?_ (fun hHeld => ?_)
      · ((try dsimp only) <;> (first | trivial | assumption | go_keep))
      clear hcc
      replace BR2 := hide (BR2.out.trans ((Below.refl vb.heap.size vb).drew.mono BR2.out.size))
      have BL := hide (Below.refl vb.heap.size vb).drew
      clear XX XY
      generalize vb.drew = vc at *
      have hnn := HK.out.2.2.2.1
      have hxx := HK.out.1
      have hx3 := HK.out.2.2.2.2
      have hwx : IntKind.i64.wrap (u.x + 1) = u.x + 1 := by rw [IntKind.wrap_i64]; omega
      have hwn : IntKind.i64.wrap ((at_ : Int) + (u.n : Int)) = (at_ : Int) + (u.n : Int) := by rw [IntKind.wrap_i64]; omega
      rcases (show i2 < at_ ∨ (at_ ≤ i2 ∧ i2 < at_ + u.n) ∨ (at_ ≤ i2 ∧ ¬ i2 < at_ + u.n) by omega) with h5 | h5 | h5
      ·
        have h6 : ¬ (at_ : Int) ≤ (i2 : Int) := by omega
        by_cases h8 : i2 = x
        ·
          have h9 : ((i2 : Int) == u.x) = true := beq_iff_eq.2 (by omega)
          have H5 := hide h5
          have H8 := hide h8
          clear h5 h8 hnn hxx hx3
          refine tk 0 ?_
          refine tk 1 ?_
          refine tk 2 ?_
          refine tk 3 ?_
          refine tk 4 ?_
          refine sk 5 ?_
          refine sk 6 ?_
          refine sk 7 ?_
          refine sk 8 ?_
          refine sk 9 ?_
          refine sk 10 ?_
          refine sk 11 ?_
          refine sk 12 ?_
          refine tk 13 ?_
          refine tk 14 ?_
          refine tk 15 ?_
          refine tk 16 ?_
          refine tk 17 ?_
          refine tk 18 ?_
          refine tk 19 ?_
          refine tk 20 ?_
          refine tk 21 ?_
          refine sk 22 ?_
          refine sk 23 ?_
          refine sk 24 ?_
          refine sk 25 ?_
          refine sk 26 ?_
          refine sk 27 ?_
          refine tk 28 ?_
          refine tk 29 ?_
          refine wpAnyH_done (by kernel_rfl) ?_ _
          refine NoPanic.normal ?_
          clear hHeld
          go_wp2_with fail
          go_meet
          exact ⟨true, rfl, fun h => absurd h (by decide), BL.out⟩
        ·
          have h9 : ((i2 : Int) == u.x) = false := beq_eq_false_iff_ne.2 (by omega)
          obtain ⟨eb, heb⟩ : ∃ eb, eb = ((i2 : Int) == u.x + 1) := ⟨_, rfl⟩
          have h10 := heb.symm
          have HEB := hide (show eb = false → i2 ≠ x + 1 from fun h e => by rw [heb] at h; exact beq_eq_false_iff_ne.1 h (by omega))
          clear heb
          have H5 := hide h5
          have H8 := hide h8
          clear h5 h8 hnn hxx hx3
          refine tk 0 ?_
          refine tk 1 ?_
          refine tk 2 ?_
          refine tk 3 ?_
          refine tk 4 ?_
          refine sk 5 ?_
          refine sk 6 ?_
          refine sk 7 ?_
          refine sk 8 ?_
          refine sk 9 ?_
          refine sk 10 ?_
          refine sk 11 ?_
          refine sk 12 ?_
          refine tk 13 ?_
          refine tk 14 ?_
          refine tk 15 ?_
          refine tk 16 ?_
          refine tk 17 ?_
          refine tk 18 ?_
          refine tk 19 ?_
          refine tk 20 ?_
          refine tk 21 ?_
          refine tk 22 ?_
          refine tk 23 ?_
          refine tk 24 ?_
          refine tk 25 ?_
          refine tk 26 ?_
          refine tk 27 ?_
          refine tk 28 ?_
          refine tk 29 ?_
          refine wpAnyH_done (by kernel_rfl) ?_ _
          refine NoPanic.normal ?_
          clear hHeld
          go_wp2_with fail
          go_meet
          exact ⟨eb, rfl, fun h => HCC.out.1 i2 hlt2 (by have := H5.out; omega) (by have := H8.out; omega) (by have := HEB.out h; omega), BL.out⟩
      ·
        have h6 : (at_ : Int) ≤ (i2 : Int) := by omega
        have h7 : (i2 : Int) < (at_ : Int) + (u.n : Int) := by omega
        have H5 := hide h5
        clear h5 hnn hxx hx3
        refine tk 0 ?_
        refine tk 1 ?_
        refine tk 2 ?_
        refine tk 3 ?_
        refine tk 4 ?_
        refine tk 5 ?_
        refine tk 6 ?_
        refine tk 7 ?_
        refine tk 8 ?_
        refine tk 9 ?_
        have SB2 := SB.out vc (B13.out.trans (BR2.out.mono B13.out.size))
        refine wpAnyH_ready (rs := [10]) (by kernel_rfl) (by simp) ?_
        refine AllReadyH.cons (by simp only [List.getElem?_toArray, List.getElem?_cons_succ, List.getElem?_cons_zero]; rfl) (fun K hK => ?_) ?_
        rotate_left 1
        · exact AllReadyH.nil
        go_simp
        refine SB2.mono ?_; rintro r vd ⟨rfl, hb⟩; replace BL := hide (BL.out.trans (hb.mono BL.out.size)); have hcc := op9S (X47.out.below (B13.out.trans ((BR2.out.trans (hb.mono BR2.out.size)).mono B13.out.size))); clear hb
        refine hK.out _ _ ?_ (fun hHeld2 => ?_)
        · ((try dsimp only) <;> (first | trivial | assumption | go_keep))
        clear hHeld
        have hHeld := hHeld2
        clear hHeld2 hK K
        try simp only [Act.put, List.setIfInBounds_toArray, List.set_cons_zero, List.set_cons_succ]
        clear hHeld SB2
        have hHeld := hcc
        clear hcc
        refine tk 11 ?_
        refine tk 12 ?_
        refine tk 13 ?_
        refine tk 14 ?_
        refine sk 15 ?_
        refine sk 16 ?_
        refine sk 17 ?_
        refine sk 18 ?_
        refine sk 19 ?_
        refine tk 20 ?_
        refine tk 21 ?_
        refine sk 22 ?_
        refine sk 23 ?_
        refine sk 24 ?_
        refine sk 25 ?_
        refine sk 26 ?_
        refine sk 27 ?_
        refine tk 28 ?_
        refine tk 29 ?_
        refine wpAnyH_done (by kernel_rfl) ?_ _
        refine NoPanic.normal ?_
        clear hHeld
        go_wp2_with fail
        go_meet
        exact ⟨true, rfl, fun h => absurd h (by decide), BL.out⟩
      ·
        have h6 : (at_ : Int) ≤ (i2 : Int) := by omega
        have h7 : ¬ (i2 : Int) < (at_ : Int) + (u.n : Int) := by omega
        by_cases h8 : i2 = x
        ·
          have h9 : ((i2 : Int) == u.x) = true := beq_iff_eq.2 (by omega)
          have H5 := hide h5
          have H8 := hide h8
          clear h5 h8 hnn hxx hx3
          refine tk 0 ?_
          refine tk 1 ?_
          refine tk 2 ?_
          refine tk 3 ?_
          refine tk 4 ?_
          refine tk 5 ?_
          refine tk 6 ?_
          refine tk 7 ?_
          refine tk 8 ?_
          refine tk 9 ?_
          have SB2 := SB.out vc (B13.out.trans (BR2.out.mono B13.out.size))
          refine wpAnyH_ready (rs := [10]) (by kernel_rfl) (by simp) ?_
          refine AllReadyH.cons (by simp only [List.getElem?_toArray, List.getElem?_cons_succ, List.getElem?_cons_zero]; rfl) (fun K hK => ?_) ?_
          rotate_left 1
          · exact AllReadyH.nil
          go_simp
          refine SB2.mono ?_; rintro r vd ⟨rfl, hb⟩; replace BL := hide (BL.out.trans (hb.mono BL.out.size)); have hcc := op9S (X47.out.below (B13.out.trans ((BR2.out.trans (hb.mono BR2.out.size)).mono B13.out.size))); clear hb
          refine hK.out _ _ ?_ (fun hHeld2 => ?_)
          · ((try dsimp only) <;> (first | trivial | assumption | go_keep))
          clear hHeld
          have hHeld := hHeld2
          clear hHeld2 hK K
          try simp only [Act.put, List.setIfInBounds_toArray, List.set_cons_zero, List.set_cons_succ]
          clear hHeld SB2
          have hHeld := hcc
          clear hcc
          refine tk 11 ?_
          refine tk 12 ?_
          refine tk 13 ?_
          refine tk 14 ?_
          refine tk 15 ?_
          refine tk 16 ?_
          refine tk 17 ?_
          refine tk 18 ?_
          refine tk 19 ?_
          refine tk 20 ?_
          refine tk 21 ?_
          refine sk 22 ?_
          refine sk 23 ?_
          refine sk 24 ?_
          refine sk 25 ?_
          refine sk 26 ?_
          refine sk 27 ?_
          refine tk 28 ?_
          refine tk 29 ?_
          refine wpAnyH_done (by kernel_rfl) ?_ _
          refine NoPanic.normal ?_
          clear hHeld
          go_wp2_with fail
          go_meet
          exact ⟨true, rfl, fun h => absurd h (by decide), BL.out⟩
        ·
          have h9 : ((i2 : Int) == u.x) = false := beq_eq_false_iff_ne.2 (by omega)
          obtain ⟨eb, heb⟩ : ∃ eb, eb = ((i2 : Int) == u.x + 1) := ⟨_, rfl⟩
          have h10 := heb.symm
          have HEB := hide (show eb = false → i2 ≠ x + 1 from fun h e => by rw [heb] at h; exact beq_eq_false_iff_ne.1 h (by omega))
          clear heb
          have H5 := hide h5
          have H8 := hide h8
          clear h5 h8 hnn hxx hx3
          refine tk 0 ?_
          refine tk 1 ?_
          refine tk 2 ?_
          refine tk 3 ?_
          refine tk 4 ?_
          refine tk 5 ?_
          refine tk 6 ?_
          refine tk 7 ?_
          refine tk 8 ?_
          refine tk 9 ?_
          have SB2 := SB.out vc (B13.out.trans (BR2.out.mono B13.out.size))
          refine wpAnyH_ready (rs := [10]) (by kernel_rfl) (by simp) ?_
          refine AllReadyH.cons (by simp only [List.getElem?_toArray, List.getElem?_cons_succ, List.getElem?_cons_zero]; rfl) (fun K hK => ?_) ?_
          rotate_left 1
          · exact AllReadyH.nil
          go_simp
          refine SB2.mono ?_; rintro r vd ⟨rfl, hb⟩; replace BL := hide (BL.out.trans (hb.mono BL.out.size)); have hcc := op9S (X47.out.below (B13.out.trans ((BR2.out.trans (hb.mono BR2.out.size)).mono B13.out.size))); clear hb
          refine hK.out _ _ ?_ (fun hHeld2 => ?_)
          · ((try dsimp only) <;> (first | trivial | assumption | go_keep))
          clear hHeld
          have hHeld := hHeld2
          clear hHeld2 hK K
          try simp only [Act.put, List.setIfInBounds_toArray, List.set_cons_zero, List.set_cons_succ]
          clear hHeld SB2
          have hHeld := hcc
          clear hcc
          refine tk 11 ?_
          refine tk 12 ?_
          refine tk 13 ?_
          refine tk 14 ?_
          refine tk 15 ?_
          refine tk 16 ?_
          refine tk 17 ?_
          refine tk 18 ?_
          refine tk 19 ?_
          refine tk 20 ?_
          refine tk 21 ?_
          refine tk 22 ?_
          refine tk 23 ?_
          refine tk 24 ?_
          refine tk 25 ?_
          refine tk 26 ?_
          refine tk 27 ?_
          refine tk 28 ?_
          refine tk 29 ?_
          refine wpAnyH_done (by kernel_rfl) ?_ _
          refine NoPanic.normal ?_
          clear hHeld
          go_wp2_with fail
          go_meet
          exact ⟨eb, rfl, fun h => HCC.out.1 i2 hlt2 (by have := H5.out; omega) (by have := H8.out; omega) (by have := HEB.out h; omega), BL.out⟩
    case rest =>
      obtain ⟨b, rfl, hbq, hbx⟩ := hcut
      replace XX := hide (XX.out.below hbx)
      replace XY := hide (XY.out.below hbx)
      replace BR2 := hide (BR2.out.trans (hbx.mono BR2.out.size))
      clear hbx SB
      cases b with
      | true =>
        clear hbq XX XY
        go_wp2_with fail
        go_roundw
        case rel => exact ⟨i2 + 1, by omega, by go_num, BR2.out⟩
        case measure => simp [intOf]; omega
      | false =>
        have hrr := hbq rfl
        have hr0 := HC0.out.2 i2
        rw [hrr] at XY
        rw [hr0] at XX
        have e1 := run_conv_txt (P := Tryd.prog) (w := wc) Tryd.underlying26 Tryd.underlying5 Tryd.underlying9 64 (by_blk XX.out (R0.out i2 hlt2))
        have e2 := run_conv_txt (P := Tryd.prog) (w := wc) Tryd.underlying26 Tryd.underlying5 Tryd.underlying9 64 (by_blk XY.out (R0.out i2 hlt2))
        have ht := txt_eq (D2.read i2)
        clear hbq hrr hr0
        go_wp2_with fail
        go_roundw
        case rel => exact ⟨i2 + 1, by omega, by go_num, BR2.out⟩
        case measure => simp [intOf]; omega
end Go.Proofs.YtlobkefacnedeaaDoor

/- Four numbers as an argument. -/
namespace Go.Proofs.YtlobkefacnedeaaDoor
open Go.RowKit
set_option maxRecDepth 100000

set_option maxRecDepth 100000 in
theorem four_of_rdS {w : World} {v : Value} (h : Arg Tryd.prog w 66 v) : ∃ a0 a1 a2 a3 : Int, v = .agg #[.int .i64 a0, .int .i64 a1, .int .i64 a2, .int .i64 a3] := by
  have hcu : Tryd.prog.cellsOf 3 = 1 := by kernel_rfl
  have hc4 : Tryd.prog.cellsOf 66 = 4 := by kernel_rfl
  obtain ⟨⟨l⟩, rfl, hh⟩ := arg_agg h (.inr ⟨_, _, Tryd.underlying66⟩)
  have hl := (rd_array Tryd.underlying66 hh).1
  rw [hc4] at hl
  match l, hl with
  | [c0, c1, c2, c3], _ =>
    obtain ⟨a, rfl, _⟩ := rd_arr_int Tryd.underlying66 hh hcu Tryd.underlying3 0 (by omega) rfl
    obtain ⟨b, rfl, _⟩ := rd_arr_int Tryd.underlying66 hh hcu Tryd.underlying3 1 (by omega) rfl
    obtain ⟨c, rfl, _⟩ := rd_arr_int Tryd.underlying66 hh hcu Tryd.underlying3 2 (by omega) rfl
    obtain ⟨d, rfl, _⟩ := rd_arr_int Tryd.underlying66 hh hcu Tryd.underlying3 3 (by omega) rfl
    exact ⟨a, b, c, d, rfl⟩
end Go.Proofs.YtlobkefacnedeaaDoor
