import Derived.Test.YtlobkefacnedeaaDoorJa12
import Derived.Deep.DrawnRows
set_option linter.unusedVariables false
set_option linter.unusedSimpArgs false
/- What a crash leaves of one write, in plain lists. -/
namespace Go.Proofs.YtlobkefacnedeaaDoor
open Go.RowKit
set_option maxRecDepth 100000

theorem spl_pre (p a b : List UInt8) (t : Nat) (hp : p.length = t * 16) : spl (p ++ a.drop (t * 16)) b t = p ++ sect b t ++ a.drop (t * 16 + 16) := by
  unfold spl
  rw [← hp, List.take_left, List.drop_length_add_append, List.drop_drop]
/-- The first m sectors of what a write leaves. -/
def mix (f : Nat → Bool) (a b : List UInt8) : Nat → List UInt8
  | 0 => []
  | m + 1 => mix f a b m ++ (if f m then sect b m else sect a m)
theorem mix_len (f : Nat → Bool) (a b : List UInt8) (ha : a.length = 64) (hb : b.length = 64) : ∀ m, m ≤ 4 → (mix f a b m).length = m * 16
  | 0, _ => rfl
  | m + 1, h => by
    rw [mix, List.length_append, mix_len f a b ha hb m (by omega)]
    split
    · rw [sect_len b m hb (by omega)]; omega
    · rw [sect_len a m ha (by omega)]; omega
theorem sect_drop (a : List UInt8) (m : Nat) : sect a m ++ a.drop ((m + 1) * 16) = a.drop (m * 16) := by
  unfold sect
  have := List.take_append_drop 16 (a.drop (m * 16))
  rwa [List.drop_drop, show m * 16 + 16 = (m + 1) * 16 by omega] at this
theorem crash1_mix (f : Nat → Bool) (x : Nat × List UInt8) (l : List (List UInt8)) (n : Nat) (h : All64 n l) (hx : x.2.length = 64) (hn : x.1 < n) : ∀ m, m ≤ 4 → crash1 f x m l = l.set x.1 (mix f (l.getD x.1 []) x.2 m ++ (l.getD x.1 []).drop (m * 16))
  | 0, _ => by
    have hl : x.1 < l.length := by rw [h.1]; exact hn
    show l = l.set x.1 ([] ++ (l.getD x.1 []).drop (0 * 16))
    rw [Nat.zero_mul, List.drop_zero, List.nil_append, List.getD_eq_getElem?_getD, List.getElem?_eq_getElem hl]
    simp
  | m + 1, hm => by
    have hl : x.1 < l.length := by rw [h.1]; exact hn
    have h0 : (l.getD x.1 []).length = 64 := by
      rw [List.getD_eq_getElem?_getD, List.getElem?_eq_getElem hl]
      exact h.2 _ (List.getElem_mem hl)
    rw [crash1_step, crash1_mix f x l n h hx hn m (by omega), mix]
    split
    · rename_i hf
      unfold cutIn
      rw [List.set_set, List.getD_eq_getElem?_getD (l := l.set _ _), List.getElem?_set_self hl, Option.getD_some]
      rw [spl_pre _ _ _ m (mix_len f _ _ h0 hx m (by omega)), show m * 16 + 16 = (m + 1) * 16 by omega]
    · rw [List.append_assoc, sect_drop]
theorem crash1_four (f : Nat → Bool) (x : Nat × List UInt8) (l : List (List UInt8)) (n : Nat) (h : All64 n l) (hx : x.2.length = 64) (hn : x.1 < n) : crash1 f x 4 l = l.set x.1 (mix f (l.getD x.1 []) x.2 4) := by
  have hl : x.1 < l.length := by rw [h.1]; exact hn
  have h0 : (l.getD x.1 []).length = 64 := by
    rw [List.getD_eq_getElem?_getD, List.getElem?_eq_getElem hl]
    exact h.2 _ (List.getElem_mem hl)
  rw [crash1_mix f x l n h hx hn 4 (Nat.le_refl _), List.drop_of_length_le (by omega), List.append_nil]
end Go.Proofs.YtlobkefacnedeaaDoor

/- DiskOrder in plain lists. -/
namespace Go.Proofs.YtlobkefacnedeaaDoor
open Go.RowKit
set_option maxRecDepth 100000

theorem sect_whole (b : List UInt8) (h : b.length = 64) : sect b 0 ++ sect b 1 ++ sect b 2 ++ sect b 3 = b := by
  unfold sect
  have e3 : (b.drop (3 * 16)).take 16 = b.drop 48 := List.take_of_length_le (by simp; omega)
  have h1 : ∀ k n : Nat, (b.drop k).take n ++ b.drop (k + n) = b.drop k := fun k n => by
    have := List.take_append_drop n (b.drop k)
    rwa [List.drop_drop] at this
  rw [e3]
  have a2 := h1 32 16
  have a1 := h1 16 16
  have a0 := h1 0 16
  simp only [List.append_assoc]
  show (b.drop 0).take 16 ++ ((b.drop 16).take 16 ++ ((b.drop 32).take 16 ++ b.drop 48)) = b
  rw [a2, a1, a0]; rfl
theorem spl_four (a b : List UInt8) (ha : a.length = 64) (hb : b.length = 64) : spl (spl (spl (spl a b 0) b 1) b 2) b 3 = b := by
  have l0 := sect_len b 0 hb (by decide)
  have l1 := sect_len b 1 hb (by decide)
  have l2 := sect_len b 2 hb (by decide)
  have s0 := spl_pre [] a b 0 rfl
  have s1 := spl_pre (sect b 0) a b 1 l0
  have s2 := spl_pre (sect b 0 ++ sect b 1) a b 2 (by rw [List.length_append, l0, l1])
  have s3 := spl_pre (sect b 0 ++ sect b 1 ++ sect b 2) a b 3 (by rw [List.length_append, List.length_append, l0, l1, l2])
  simp only [List.nil_append, Nat.zero_mul, List.drop_zero, Nat.zero_add] at s0
  rw [s0]
  rw [s1]
  rw [s2]
  rw [s3, List.drop_of_length_le (by omega), List.append_nil]
  exact sect_whole b hb
theorem crash1_none (x : Nat × List UInt8) (l : List (List UInt8)) (f : Nat → Bool) (hf : ∀ t, f t = false) (m : Nat) : crash1 f x m l = l := by
  induction m with
  | zero => rfl
  | succ m ih => rw [crash1_step, hf, if_neg (by decide), ih]
theorem crash1_full (x : Nat × List UInt8) (l : List (List UInt8)) (n : Nat) (h : All64 n l) (hx : x.2.length = 64) (hn : x.1 < n) (f : Nat → Bool) (hf : ∀ t, f t = true) : crash1 f x 4 l = l.set x.1 x.2 := by
  have hl : x.1 < l.length := by rw [h.1]; exact hn
  have hc : ∀ (a : List UInt8) t, cutIn x (l.set x.1 a) t = l.set x.1 (spl a x.2 t) := fun a t => by
    unfold cutIn
    rw [List.set_set, List.getD_eq_getElem?_getD, List.getElem?_set_self hl]
    rfl
  have h0 : (l.getD x.1 []).length = 64 := by
    rw [List.getD_eq_getElem?_getD, List.getElem?_eq_getElem hl]
    exact h.2 _ (List.getElem_mem hl)
  have c0 : crash1 f x 0 l = l := rfl
  rw [crash1_step, hf, if_pos rfl, crash1_step, hf, if_pos rfl, crash1_step, hf, if_pos rfl, crash1_step, hf, if_pos rfl, c0]
  rw [show cutIn x l 0 = l.set x.1 (spl (l.getD x.1 []) x.2 0) from rfl, hc, hc, hc, spl_four _ _ h0 hx]

/-- The disk of these fills. -/
def ordD (fs : List UInt8) : Dsk := ⟨List.replicate 3 zero64, fs.map fun f => (1, round64 [f]), fs.length, -1, 3, #[]⟩
theorem ordD_step (fs : List UInt8) (f : UInt8) : (ordD fs).wrote 1 (round64 [f]) = ordD (fs ++ [f]) := by
  unfold ordD Dsk.wrote Dsk.stepped
  rw [List.map_append, List.length_append]
  rfl
theorem ordD_zero : freshD 3 = ordD [] := rfl
/-- Which fill counts behind a crash; and the last one. -/
def wantF (fs : List UInt8) (keep : List Bool) : Nat → UInt8
  | 0 => 0
  | j + 1 => if keep.getD j false = true then fs.getD j 0 else wantF fs keep j
def lastF (fs : List UInt8) : Nat → UInt8
  | 0 => 0
  | j + 1 => fs.getD j 0
theorem zero_round : round64 [0] = zero64 := by decide
theorem ord_crash (fs : List UInt8) (keep : List Bool) (torn sectors : Int) (ht : torn < 0) (cap : Nat) (pad : Array Value) :
    ((ordD fs).crashed (crashF keep torn sectors) cap pad).read 1 = round64 [wantF fs keep fs.length] := by
  have hq : (ordD fs).queue.length = fs.length := by simp [ordD]
  have h64 : All64 3 (ordD fs).sure := ⟨by simp [ordD], fun x hx => by
    have : x = zero64 := by
      simp [ordD] at hx; exact hx
    rw [this]; unfold zero64; rw [List.length_replicate]⟩
  have hqs : ∀ x ∈ (ordD fs).queue, x.2.length = 64 ∧ x.1 < 3 := fun x hx => by
    simp only [ordD, List.mem_map] at hx
    obtain ⟨f, _, rfl⟩ := hx
    exact ⟨round64_len _, Nat.le_of_ble_eq_true rfl⟩
  have key : ∀ m, m ≤ fs.length → (crashN (crashF keep torn sectors) (ordD fs).queue m (ordD fs).sure)[1]? = some (round64 [wantF fs keep m]) := by
    intro m
    induction m with
    | zero => intro _; rw [show wantF fs keep 0 = 0 from rfl, zero_round]; rfl
    | succ m ih =>
      intro hm
      have hx : (ordD fs).queue[m]? = some (1, round64 [fs[m]]) := by simp [ordD, List.getElem?_map]; exact ⟨fs[m], by simp, rfl⟩
      rw [crashN_step _ _ _ _ _ hx]
      have hn := crashN_64 (f := crashF keep torn sectors) h64 hqs m (by rw [hq]; omega)
      have hno : ((m : Int) == torn) = false := by simp; omega
      by_cases hk : keep.getD m false = true
      · rw [crash1_full _ _ 3 hn (round64_len _) (Nat.le_of_ble_eq_true rfl) _ (fun t => by unfold crashF; rw [hk]; rfl)]
        rw [List.getElem?_set_self (by rw [hn.1]; exact Nat.le_of_ble_eq_true rfl)]
        show some (round64 [fs[m]]) = some (round64 [if keep.getD m false = true then fs.getD m 0 else wantF fs keep m])
        rw [if_pos hk, List.getD_eq_getElem?_getD, List.getElem?_eq_getElem (by omega)]; rfl
      · rw [crash1_none _ _ _ (fun t => by unfold crashF; rw [hno, Bool.eq_false_iff.2 hk]; rfl), ih (by omega)]
        show _ = some (round64 [if keep.getD m false = true then fs.getD m 0 else wantF fs keep m])
        rw [if_neg hk]
  have := key fs.length (Nat.le_refl _)
  show (crashN (crashF keep torn sectors) (ordD fs).queue (ordD fs).queue.length (ordD fs).sure).getD 1 [] = _
  rw [hq, List.getD_eq_getElem?_getD, this]; rfl
theorem ord_barred (fs : List UInt8) : (putQ (ordD fs).queue (ordD fs).sure)[1]? = some (round64 [lastF fs fs.length]) := by
  have key : ∀ m, m ≤ fs.length → (putQ ((ordD fs).queue.take m) (ordD fs).sure)[1]? = some (round64 [lastF fs m]) := by
    intro m
    induction m with
    | zero => intro _; rw [show lastF fs 0 = 0 from rfl, zero_round]; rfl
    | succ m ih =>
      intro hm
      have hx : (ordD fs).queue[m]? = some (1, round64 [fs[m]]) := by simp [ordD, List.getElem?_map]; exact ⟨fs[m], by simp, rfl⟩
      rw [putQ_step _ _ _ _ hx, List.getElem?_set_self (by rw [putQ_len]; exact Nat.le_of_ble_eq_true rfl)]
      show some (round64 [fs[m]]) = some (round64 [fs.getD m 0])
      rw [List.getD_eq_getElem?_getD, List.getElem?_eq_getElem (by omega)]; rfl
  have := key fs.length (Nat.le_refl _)
  rwa [List.take_of_length_le (by simp [ordD])] at this
theorem ord_again (fs : List UInt8) (keep : List Bool) (torn sectors : Int) (cap : Nat) (pad : Array Value) : ((ordD fs).barred.crashed (crashF keep torn sectors) cap pad).read 1 = round64 [lastF fs fs.length] := by
  show (putQ (ordD fs).queue (ordD fs).sure).getD 1 [] = _
  rw [List.getD_eq_getElem?_getD, ord_barred]; rfl
end Go.Proofs.YtlobkefacnedeaaDoor

/- The reference's disk in memory; step, Arm. -/
namespace Go.Proofs.YtlobkefacnedeaaDoor
open Go.RowKit
set_option maxRecDepth 100000

/-- Blocks as texts; writes as their numbers and texts. -/
def strC (l : List (List UInt8)) : List Value := l.map fun b => .string (txt b)
def wsC (q : List (Nat × List UInt8)) : List Value := q.flatMap fun x => [.int .i64 (x.1 : Int), .string (txt x.2)]
def refV (As : Option Addr) (cs : Nat) (Aq : Option Addr) (cq : Nat) (D : Dsk) : Array Value := #[.slice As D.sure.length cs, .slice Aq D.queue.length cq, .int .i64 (D.steps : Int), .int .i64 D.left]
theorem ob (A : Option Addr) (n c : Nat) : (Value.slice A n c).ownBlock = (Value.slice A 0 0).ownBlock := by cases A <;> rfl
/-- The reference's disk: its texts and its writes lie in rows above base. -/
structure RefM (w : World) (base : Nat) (As : Option Addr) (cs : Nat) (Aq : Option Addr) (cq : Nat) (D : Dsk) : Prop where
  s : w.ownsRow base 9 1 (.slice As D.sure.length cs) D.sure.length (strC D.sure)
  q : w.ownsRow base 110 2 (.slice Aq D.queue.length cq) D.queue.length (wsC D.queue)
  ok : D.Ok
theorem own_kp {w w' : World} {base n k : Nat} {e : TypeId} {v : Value} {xs : List Value} (h : w.ownsRow base e k v n xs) {gs : List Nat} (hk : Kp gs w w') (hv : ∀ g, v.ownBlock = some g → g ∉ gs) : w'.ownsRow base e k v n xs := by
  refine ⟨h.1, ?_⟩
  rcases h.2 with h0 | ⟨g, cap, cur, rfl, h2, h3, h4⟩
  · exact .inl h0
  · exact .inr ⟨g, cap, cur, rfl, h2, Blk.kp h3 hk (hv g rfl), h4⟩
section
variable {w w' : World} {base cs cq : Nat} {As Aq : Option Addr} {D : Dsk}
theorem RefM.kp (h : RefM w base As cs Aq cq D) {gs : List Nat} (hk : Kp gs w w') (hs : ∀ g, (Value.slice As 0 0).ownBlock = some g → g ∉ gs) (hq : ∀ g, (Value.slice Aq 0 0).ownBlock = some g → g ∉ gs) : RefM w' base As cs Aq cq D :=
  ⟨own_kp h.s hk (fun g hg => hs g (by rw [← hg]; exact (ob _ _ _).symm)), own_kp h.q hk (fun g hg => hq g (by rw [← hg]; exact (ob _ _ _).symm)), h.ok⟩
theorem RefM.below (h : RefM w base As cs Aq cq D) (hb : Below w.heap.size w w') : RefM w' base As cs Aq cq D := h.kp (Kp.of_below (gs := []) hb) (by simp) (by simp)
theorem RefM.sLt (h : RefM w base As cs Aq cq D) : ∀ g, (Value.slice As 0 0).ownBlock = some g → base ≤ g ∧ g < w.heap.size := fun g hg => h.s.lt g (by rw [← hg]; exact ob _ _ _)
theorem RefM.qLt (h : RefM w base As cs Aq cq D) : ∀ g, (Value.slice Aq 0 0).ownBlock = some g → base ≤ g ∧ g < w.heap.size := fun g hg => h.q.lt g (by rw [← hg]; exact ob _ _ _)
/-- Only the numbers turn. -/
theorem RefM.to {D' : Dsk} (h : RefM w base As cs Aq cq D) (e1 : D'.sure = D.sure) (e2 : D'.queue = D.queue) (ok : D'.Ok) : RefM w base As cs Aq cq D' := by
  refine ⟨?_, ?_, ok⟩
  · rw [e1]; exact h.s
  · rw [e2]; exact h.q
end
theorem Dsk.Ok.stepped {D : Dsk} (h : D.Ok) (hs : D.steps < 1000000) : D.stepped.Ok :=
  { h with l := by have := h.l; show -1 ≤ max (D.left - 1) (-1) ∧ max (D.left - 1) (-1) ≤ 9223372036854775807; omega, s := by show D.steps + 1 ≤ 1000000; omega }

theorem rstep_dead (As : Option Addr) (cs : Nat) (Aq : Option Addr) (cq : Nat) (D : Dsk) (w : World) (hl : D.left = 0) :
    Calls Tryd.prog 81 #[.agg (refV As cs Aq cq D)] w fun e w' => e = .returned (.tuple #[.agg (refV As cs Aq cq D), .bool false]) ∧ Below w.heap.size w w' := by
  unfold refV
  rw [hl]
  go_enter Tryd.func81, Tryd.ntmps81
  go_wp2_with fail
  exact bodyPost_ret (v := .tuple #[.agg _, _]) (by simp [results, Tryd.results81, go_sem]) rfl ⟨rfl, ((Below.refl _ _).alloc (Nat.le_refl _) _).alloc (by simp) _⟩
theorem rstep_ok (As : Option Addr) (cs : Nat) (Aq : Option Addr) (cq : Nat) (D : Dsk) (w : World) (hl : D.left ≠ 0) (ok : D.Ok) (hs : D.steps < 1000000) :
    Calls Tryd.prog 81 #[.agg (refV As cs Aq cq D)] w fun e w' => e = .returned (.tuple #[.agg (refV As cs Aq cq D.stepped), .bool true]) ∧ Below w.heap.size w w' := by
  unfold refV Dsk.stepped
  obtain ⟨l1, l2⟩ := ok.l
  have hl' : (D.left == 0) = false := by simpa using hl
  generalize D.left = lf at *
  clear hl ok
  by_cases h0 : 0 < lf
  · have em : Hid (max (lf - 1) (-1) = lf - 1) := hide (by omega)
    go_enter Tryd.func81, Tryd.ntmps81
    go_wp2_with fail
    exact bodyPost_ret (v := .tuple #[.agg #[.slice As D.sure.length cs, .slice Aq D.queue.length cq, .int .i64 ((D.steps : Int) + 1), .int .i64 (lf - 1)], .bool true]) (by simp [results, Tryd.results81, go_sem]) rfl ⟨by rw [em.out]; first | done | rfl, ((Below.refl _ _).alloc (Nat.le_refl _) _).alloc (by simp) _⟩
  · have em : Hid (max (lf - 1) (-1) = lf) := hide (by
      have : lf ≠ 0 := by simpa using hl'
      omega)
    go_enter Tryd.func81, Tryd.ntmps81
    go_wp2_with fail
    exact bodyPost_ret (v := .tuple #[.agg #[.slice As D.sure.length cs, .slice Aq D.queue.length cq, .int .i64 ((D.steps : Int) + 1), .int .i64 lf], .bool true]) (by simp [results, Tryd.results81, go_sem]) rfl ⟨by rw [em.out]; first | done | rfl, ((Below.refl _ _).alloc (Nat.le_refl _) _).alloc (by simp) _⟩
end Go.Proofs.YtlobkefacnedeaaDoor

/- The walks over marllaw15.texts, ref; marlref01.Texts, marlref15.Same; marllaw15.few. -/
namespace Go.Proofs.YtlobkefacnedeaaDoor
open Go.RowKit
set_option maxRecDepth 100000
attribute [local go_sem ↓] Go.wp_at_zero Go.wp_at_succ

theorem etyStr : Ety Tryd.prog 43 9 (.string ⟨#[]⟩) 16 := Ety.mk' Tryd.underlying43 (by kernel_rfl) rfl (by omega)
theorem strC_len (l : List (List UInt8)) : (strC l).length = l.length := by simp [strC]
theorem strC_snoc (l : List (List UInt8)) (b : List UInt8) : strC (l ++ [b]) = strC l ++ [.string (txt b)] := by simp [strC]
theorem strC_get (l : List (List UInt8)) (j : Nat) : (strC l)[j]? = l[j]?.map fun b => Value.string (txt b) := by simp [strC]
/-- A slice of slices of bytes that reads so. -/
def TxS (w : World) (A : Option Addr) (m : Nat) (bs : List (List UInt8)) : Prop :=
  ∃ cs : List Value, bs.length = m ∧ Sl w w.heap.size A m cs ∧ ∀ (j : Nat) (x : Value) (b : List UInt8), cs[j]? = some x → bs[j]? = some b → ∃ B n c, x = .slice B n c ∧ By w w.heap.size B n b
theorem TxS.below {w w' : World} {A : Option Addr} {m : Nat} {bs : List (List UInt8)} (h : TxS w A m bs) (hb : Below w.heap.size w w') : TxS w' A m bs := by
  obtain ⟨cs, h1, h2, h3⟩ := h
  refine ⟨cs, h1, (h2.below hb).more hb.size, fun j x b hx hj => ?_⟩
  obtain ⟨B, n, c, e, h4⟩ := h3 j x b hx hj
  exact ⟨B, n, c, e, (Sl.below h4 hb).more hb.size⟩
theorem TxS.at {w : World} {A : Option Addr} {m j : Nat} {bs : List (List UInt8)} (h : TxS w A m bs) (hj : j < m) : ∃ ad b B n c, A = some ad ∧ bs[j]? = some b ∧ w.cell? (ad.add j) = some (.slice B n c) ∧ By w w.heap.size B n b := by
  obtain ⟨cs, h1, h2, h3⟩ := h
  obtain ⟨ad, u, hA, -, hu, hc⟩ := h2.get hj
  have hb : bs[j]? = some (bs[j]'(by omega)) := List.getElem?_eq_getElem _
  obtain ⟨B, n, c, rfl, h4⟩ := h3 j u _ hu hb
  exact ⟨ad, _, B, n, c, hA, hb, hc, h4⟩
theorem TxS.len {w : World} {A : Option Addr} {m : Nat} {bs : List (List UInt8)} (h : TxS w A m bs) : bs.length = m := by
  obtain ⟨cs, h1, -⟩ := h
  exact h1
theorem BsAt.txs {base m : Nat} {w : World} {A : Option Addr} {bs : List (List UInt8)} (h : BsAt base w A m bs) : TxS w A m bs := by
  obtain ⟨cs, e1, e2, hr, hb⟩ := h
  refine ⟨cs, e2, RwAt.sl hr, fun j x b hx hj => ?_⟩
  obtain ⟨B, c, e, -, hB⟩ := hb j x b hx hj
  exact ⟨B, _, c, e, RwAt.sl hB⟩
theorem RowT.txs {t : TypeId} {base c : Nat} {w : World} {A : Option Addr} {gs : List Nat} {bs : List (List UInt8)} (h : RowT t base w A c gs bs) : TxS w A bs.length bs := by
  refine ⟨gs.map gV, rfl, Sl.of_own h.own, fun j x b hx hj => ?_⟩
  rw [List.getElem?_map] at hx
  obtain ⟨g, hg, rfl⟩ := Option.map_eq_some_iff.1 hx
  obtain ⟨h1, h2, h3⟩ := h.at_ j g b hg hj
  exact ⟨some ⟨g, 0, none⟩, 64, 64, rfl, by_blk h3 h2⟩
/-- A row of texts of the call's own. -/
abbrev OwnS (w : World) (base : Nat) (A : Option Addr) (m c : Nat) (bs : List (List UInt8)) : Prop := w.ownsRow base 9 1 (.slice A m c) m (strC bs)
set_option maxHeartbeats 2000000 in
theorem texts15 (w : World) (A : Option Addr) (m c : Nat) (bs : List (List UInt8)) (h : TxS w A m bs) (hm : m ≤ 100000) :
    Calls Tryd.prog 17 #[.slice A m c] w fun r w' => ∃ A' c', r = .returned (.slice A' m c') ∧ OwnS w' w.heap.size A' m c' bs ∧ Below w.heap.size w w' := by
  have H := hide h
  have HL := hide h.len
  clear h
  go_enter Tryd.func17, Tryd.ntmps17
  go_wp2_with fail
  go_loopw [3, 8] (fun x y wr => ∃ (j : Nat) (A' : Option Addr) (c' : Nat), j ≤ m ∧ x = .slice A' j c' ∧ y = .int .i64 (j : Int) ∧ OwnS wr w.heap.size A' j c' (bs.take j) ∧ Below w.heap.size w wr) (fun _ y _ => m - (intOf y).toNat)
  case atStart => exact ⟨0, none, 0, Nat.zero_le _, rfl, rfl, World.ownsRow_nil _ _ _ _, Below.refl _ _⟩
  case round =>
    obtain ⟨j, A', c', hj, rfl, rfl, ho, hb⟩ := hrel
    have O := hide ho
    have BW := hide hb
    clear ho hb
    by_cases hlt : j < m
    · have hjs : (j : Int) < (m : Int) := by omega
      obtain ⟨ad, b, B, n, cB, rfl, hbj, hc, hB⟩ := (H.out.below BW.out).at hlt
      have hcv := run_conv_txt (P := Tryd.prog) wr Tryd.underlying26 Tryd.underlying5 Tryd.underlying9 cB hB
      have HT := hide (show bs.take (j + 1) = bs.take j ++ [b] by rw [List.take_add_one, hbj]; rfl)
      clear hbj hB
      go_wp2_with (
        at_builtin
        refine wpList_app _ rfl (.tmp 12) (.tmp 15) _ rfl etyStr w.heap.size (.slice A' j c') j _ rfl (own_bel O.out ((Below.refl _ _).alloc (Nat.le_refl _) (.cells #[.string (txt b)] 9))) (wr.heap.size + 1) (some ⟨wr.heap.size, 0, none⟩) 1 1 [.string (txt b)] rfl (sl_newS wr [.string (txt b)] 9) (by intro u hu; rw [List.mem_singleton] at hu; rw [hu]; rfl) (by omega) (Nat.le_trans BW.out.size (by simp)) ?_
        intro A3 c3 w3 ho hg ha
        have O3 := hide ho
        have ba := (Below.refl wr.heap.size wr).alloc (Nat.le_refl _) (.cells #[.string (txt b)] 9)
        have B3 := hide ((BW.out.trans (ba.mono BW.out.size)).grown hg (Nat.le_trans BW.out.size ba.size) (fun g hg => (O.out.lt g hg).1))
        clear ho hg ha ba)
      go_roundw
      case rel => exact ⟨j + 1, A3, c3, by omega, rfl, by go_num, by rw [OwnS, HT.out, strC_snoc]; exact O3.out, B3.out⟩
      case measure => simp [intOf]; omega
    · have hjs : ¬ (j : Int) < (m : Int) := by omega
      obtain rfl : j = m := by omega
      go_wp2_with fail
      go_ret
      refine ⟨A', c', rfl, ?_, BW.out⟩
      have := O.out
      rw [List.take_of_length_le (by rw [HL.out]; exact Nat.le_refl _)] at this
      exact this
theorem results_cell1 {P : Program} {fn : Func} {p : Tmp} {ty : TypeId} (h : fn.results = #[.cell p ty]) (tmps : Array Value) (w : World) (g : Nat) (t : TypeId) (cs : Array Value) (fr : Nat × Nat) (d : TypeDesc)
    (hp : tmps.getD p undef = .pointer (some ⟨g, 0, none⟩)) (hg : w.heap[g]? = some (.cells cs t fr))
    (hu : P.underlying ty = some d) (hd : (match d with | .struct _ | .array _ _ => true | _ => false) = true) (hi : (P.info? ty).map (·.size) = some cs.size) :
    (results fn tmps).run P w = .ok (.agg cs) w := by
  have hp' : tmps[p]?.getD undef = .pointer (some ⟨g, 0, none⟩) := by simpa using hp
  simp [results, h, hp', asAddr, run_loadVar_row w g t ty cs fr d hg hu hd hi]
theorem ret_rf {K : Ending → World → Prop} {tmps : Array Value} {w : World} {g : Nat} {cs : Array Value} (hp : tmps.getD 2 undef = .pointer (some ⟨g, 0, none⟩)) (hB : Blk w g 45 cs) (hs : cs.size = 9)
    (hK : K (.returned (.agg cs)) w) : bodyPost Tryd.prog Tryd.f16 K .ret ⟨tmps, []⟩ w :=
  bodyPost_ret (results_cell1 (g := g) (cs := cs) (t := 45) (fr := (0, 0)) rfl _ _ (hp := hp) (hg := hB) (hu := Tryd.underlying45) (hd := rfl) (hi := by rw [hs]; kernel_rfl)) rfl hK
set_option maxHeartbeats 4000000 in
theorem ref15 (w : World) (a : Int) (v : PV) (B1 B2 A : Option Addr) (d1 d2 m c : Nat) (bs : List (List UInt8)) (h : TxS w A m bs) (hm : m ≤ 100000) :
    Calls Tryd.prog 16 #[.agg (fdC a v B1 d1 B2 d2 A m c)] w fun r w' => ∃ A' c', r = .returned (.agg (fdC a v B1 d1 B2 d2 A' m c')) ∧ OwnS w' w.heap.size A' m c' bs ∧ Below w.heap.size w w' := by
  have H := hide h
  have HL := hide h.len
  clear h
  unfold fdC
  go_enter Tryd.func16, Tryd.ntmps16
  go_upto_region 2 with fail
  obtain ⟨w1, hw⟩ : ∃ W, W = ((w.alloc (.cells #[.int .i64 a, .int .i64 v.e, .int .i64 v.c, .int .i64 v.i, .int .i64 v.p, .int .i64 v.x, .slice B1 v.fs.length d1, .slice B2 v.is.length d2, .slice A m c] 39)).alloc (.cells zeroC 45)).alloc (.cells #[.int .i64 a, .int .i64 v.e, .int .i64 v.c, .int .i64 v.i, .int .i64 v.p, .int .i64 v.x, .slice B1 v.fs.length d1, .slice B2 v.is.length d2, .slice none 0 0] 45) := ⟨_, rfl⟩
  have X1 : Hid (Blk w1 w.heap.size 39 #[.int .i64 a, .int .i64 v.e, .int .i64 v.c, .int .i64 v.i, .int .i64 v.p, .int .i64 v.x, .slice B1 v.fs.length d1, .slice B2 v.is.length d2, .slice A m c]) := hide (by rw [hw]; exact ((Blk.new _ _ _).alloc _).alloc _)
  have X2 : Hid (Blk w1 (w.heap.size + 1) 45 zeroC) := hide (by
    rw [hw]
    have := (Blk.new (w.alloc (.cells #[.int .i64 a, .int .i64 v.e, .int .i64 v.c, .int .i64 v.i, .int .i64 v.p, .int .i64 v.x, .slice B1 v.fs.length d1, .slice B2 v.is.length d2, .slice A m c] 39)) 45 zeroC).alloc (.cells #[.int .i64 a, .int .i64 v.e, .int .i64 v.c, .int .i64 v.i, .int .i64 v.p, .int .i64 v.x, .slice B1 v.fs.length d1, .slice B2 v.is.length d2, .slice none 0 0] 45)
    simpa using this)
  have X3 : Hid (Blk w1 (w.heap.size + 1 + 1) 45 #[.int .i64 a, .int .i64 v.e, .int .i64 v.c, .int .i64 v.i, .int .i64 v.p, .int .i64 v.x, .slice B1 v.fs.length d1, .slice B2 v.is.length d2, .slice none 0 0]) := hide (by
    rw [hw]
    have := Blk.new ((w.alloc (.cells #[.int .i64 a, .int .i64 v.e, .int .i64 v.c, .int .i64 v.i, .int .i64 v.p, .int .i64 v.x, .slice B1 v.fs.length d1, .slice B2 v.is.length d2, .slice A m c] 39)).alloc (.cells zeroC 45)) 45 #[.int .i64 a, .int .i64 v.e, .int .i64 v.c, .int .i64 v.i, .int .i64 v.p, .int .i64 v.x, .slice B1 v.fs.length d1, .slice B2 v.is.length d2, .slice none 0 0]
    simpa using this)
  have BW : Hid (Below w.heap.size w w1) := hide (by rw [hw]; exact (((Below.refl _ _).alloc (Nat.le_refl _) _).alloc (by simp) _).alloc (by simp; omega) _)
  have hw' := hw
  unfold zeroC fdC pv0 at hw'
  simp only [List.length_nil] at hw'
  rw [← hw']
  obtain ⟨g1, hg1⟩ : ∃ g, g = w.heap.size := ⟨_, rfl⟩
  rw [← hg1] at X1 X2 X3 ⊢
  obtain ⟨g2, hg2⟩ : ∃ g, g = g1 + 1 := ⟨_, rfl⟩
  rw [← hg2] at X2 X3 ⊢
  obtain ⟨g3, hg3⟩ : ∃ g, g = g2 + 1 := ⟨_, rfl⟩
  rw [← hg3] at X3 ⊢
  have G := hide (show w.heap.size ≤ g2 ∧ w.heap.size ≤ g3 ∧ g2 ≠ g3 by omega)
  clear hw hw' hg1 hg2 hg3
  have x8 := X1.out.cell 8
  simp only [List.getElem?_toArray, List.getElem?_cons_succ, List.getElem?_cons_zero] at x8
  go_wp2_with fail
  clear x8
  go_loopw [14] (fun y wr => ∃ (j : Nat) (A' : Option Addr) (c' : Nat), j ≤ m ∧ y = .int .i64 (j : Int) ∧ OwnS wr w.heap.size A' j c' (bs.take j) ∧ Blk wr g2 45 zeroC ∧ Blk wr g3 45 #[.int .i64 a, .int .i64 v.e, .int .i64 v.c, .int .i64 v.i, .int .i64 v.p, .int .i64 v.x, .slice B1 v.fs.length d1, .slice B2 v.is.length d2, .slice A' j c'] ∧ Below w.heap.size w wr) (fun y _ => m - (intOf y).toNat)
  case atStart => exact ⟨0, none, 0, Nat.zero_le _, rfl, World.ownsRow_nil _ _ _ _, X2.out, X3.out, BW.out⟩
  case round =>
    obtain ⟨j, A', c', hj, rfl, ho, hx2, hx3, hb⟩ := hrel
    have O := hide ho
    replace X2 := hide hx2
    replace X3 := hide hx3
    replace BW := hide hb
    clear ho hb hx2 hx3 X1
    by_cases hlt : j < m
    · have hjs : (j : Int) < (m : Int) := by omega
      obtain ⟨ad, b, B, n, cB, rfl, hbj, hc, hB⟩ := (H.out.below BW.out).at hlt
      have hcv := run_conv_txt (P := Tryd.prog) wr Tryd.underlying26 Tryd.underlying5 Tryd.underlying9 cB hB
      have HT := hide (show bs.take (j + 1) = bs.take j ++ [b] by rw [List.take_add_one, hbj]; rfl)
      clear hbj hB
      have y8 := X3.out.cell 8
      simp only [List.getElem?_toArray, List.getElem?_cons_succ, List.getElem?_cons_zero] at y8
      go_wp2_with (
        at_builtin
        refine wpList_app _ rfl (.tmp 19) (.tmp 22) _ rfl etyStr w.heap.size (.slice A' j c') j _ rfl (own_bel O.out ((Below.refl _ _).alloc (Nat.le_refl _) (.cells #[.string (txt b)] 9))) (wr.heap.size + 1) (some ⟨wr.heap.size, 0, none⟩) 1 1 [.string (txt b)] rfl (sl_newS wr [.string (txt b)] 9) (by intro u hu; rw [List.mem_singleton] at hu; rw [hu]; rfl) (by omega) (Nat.le_trans BW.out.size (by simp)) ?_
        intro A3 c3 w3 ho hg ha
        have O3 := hide ho
        have ba := (Below.refl wr.heap.size wr).alloc (Nat.le_refl _) (.cells #[.string (txt b)] 9)
        have OO := own_bel O.out ba
        have B3 := hide ((BW.out.trans (ba.mono BW.out.size)).grown hg (Nat.le_trans BW.out.size ba.size) (fun g hg => (O.out.lt g hg).1))
        have X2' := hide (blk_grT (X2.out.below ba) OO (by decide) hg)
        have X3' := hide (blk_grT (X3.out.below ba) OO (by decide) hg)
        have z8 := X3'.out.frozen 8
        have y8' := X3'.out.cell 8
        simp only [List.getElem?_toArray, List.getElem?_cons_succ, List.getElem?_cons_zero] at y8'
        clear ho hg ha ba OO)
      clear y8 y8' z8
      go_roundw
      case rel =>
        have XF := X3'.out.set 8 (.slice A3 (j + 1) c3)
        simp only [List.setIfInBounds_toArray, List.set_cons_zero, List.set_cons_succ] at XF
        refine ⟨j + 1, A3, c3, by omega, by go_num, ?_, X2'.out.far G.out.2.2 _, XF, B3.out.setCell G.out.2.1 _⟩
        have h3 := own_ktR O3.out ((Kt.refl [45] w.heap.size w3).set (p := ⟨g3, 8, none⟩) (.inl ⟨G.out.2.1, fun t cs hB => by simp [(Blk.type hB X3'.out).1]⟩) (.slice A3 (j + 1) c3)) (by decide)
        rw [OwnS, HT.out, strC_snoc]
        exact h3
      case measure => simp [intOf]; omega
    · have hjs : ¬ (j : Int) < (m : Int) := by omega
      obtain rfl : j = m := by omega
      obtain ⟨y0, y1, y2, y3, y4, y5, y6, y7, y8⟩ := op9z X2.out
      have z := X2.out.frozen
      obtain ⟨x0, x1, x2, x3, x4, x5, x6, x7, x8⟩ := op9S X3.out
      go_wp2_with fail
      clear y0 y1 y2 y3 y4 y5 y6 y7 y8 z x0 x1 x2 x3 x4 x5 x6 x7 x8
      obtain ⟨S1, S2⟩ := set9 X2.out (.int .i64 a) (.int .i64 v.e) (.int .i64 v.c) (.int .i64 v.i) (.int .i64 v.p) (.int .i64 v.x) (.slice B1 v.fs.length d1) (.slice B2 v.is.length d2) (.slice A' j c')
      refine ret_rf (g := g2) rfl S1 rfl ⟨A', c', rfl, ?_, Below.kp2 BW.out S2 BW.out.size (by simpa using G.out.1)⟩
      have h3 := own_ktR O.out (kt_box S2 X2.out (base := w.heap.size) G.out.1) (by decide)
      rw [List.take_of_length_le (by rw [HL.out]; exact Nat.le_refl _)] at h3
      exact h3
theorem sl_str {w : World} {B n : Nat} {A : Option Addr} {l : List (List UInt8)} (h : Sl w B A n (strC l)) {j : Nat} (hj : j < n) : ∃ (ad : Addr) (b : List UInt8), A = some ad ∧ l[j]? = some b ∧ w.cell? (ad.add j) = some (.string (txt b)) := by
  obtain ⟨ad, u, hA, -, hu, hc⟩ := h.get hj
  have hl := h.len
  rw [strC_len] at hl
  have hx : l[j]? = some (l[j]'(by omega)) := List.getElem?_eq_getElem _
  refine ⟨ad, _, hA, hx, ?_⟩
  rw [strC_get, hx] at hu
  simp only [Option.map_some, Option.some.injEq] at hu
  rw [hc, ← hu]
set_option maxHeartbeats 2000000 in
theorem texts_any (w : World) (A A' : Option Addr) (n c n' c' B B' : Nat) (l l' : List (List UInt8)) (h : Sl w B A n (strC l)) (h' : Sl w B' A' n' (strC l')) (hB : B ≤ w.heap.size) (hB' : B' ≤ w.heap.size) (hn : n ≤ 100000) (hn' : n' ≤ 100000) :
    Calls Tryd.prog 44 #[.slice A n c, .slice A' n' c'] w fun e w' => e = .returned (.bool (decide (l = l'))) ∧ Below w.heap.size w w' := by
  have H := hide h
  have H' := hide h'
  have HL := hide (show l.length = n ∧ l'.length = n' from ⟨by have := h.len; rwa [strC_len] at this, by have := h'.len; rwa [strC_len] at this⟩)
  clear h h'
  obtain ⟨R, hR⟩ : ∃ R, R = decide (l = l') := ⟨_, rfl⟩
  have HR := hide hR
  rw [← hR]
  clear hR
  go_enter Tryd.func44, Tryd.ntmps44
  by_cases hnn : n = n'
  rotate_left
  · have hne : ((n : Int) != (n' : Int)) = true := bne_iff_ne.2 (by omega)
    have HF := hide (show R = false by rw [HR.out]; exact decide_eq_false (fun e => hnn (by rw [← HL.out.1, ← HL.out.2, e])))
    clear hnn
    go_wp2_with fail
    go_ret
    rw [HF.out]
    exact ⟨rfl, Below.refl _ _⟩
  subst hnn
  go_wp2_with fail
  go_loopw [13] (fun x wr => ∃ j : Nat, j ≤ n ∧ x = .int .i64 (j : Int) ∧ l.take j = l'.take j ∧ Below w.heap.size w wr) (fun x _ => n - (intOf x).toNat)
  case atStart => exact ⟨0, Nat.zero_le _, rfl, rfl, Below.refl _ _⟩
  case round =>
    obtain ⟨j, hj, rfl, htk, hb⟩ := hrel
    have Hb := hide hb
    have HT := hide htk
    clear hb htk
    by_cases hlt : j < n
    · have hjs : (j : Int) < (n : Int) := by omega
      obtain ⟨ad, b, rfl, hx, hc⟩ := sl_str (H.out.below (Hb.out.mono hB)) hlt
      obtain ⟨ad', b', rfl, hx', hc'⟩ := sl_str (H'.out.below (Hb.out.mono hB')) hlt
      have HX := hide (And.intro hx hx')
      clear hx hx'
      by_cases hbb : b = b'
      · have ht : ((txt b).toList == (txt b').toList) = true := by rw [hbb]; exact txt_eq _
        have HBB := hide hbb
        clear hbb
        go_upto_region 6 with fail
        go_quiet (fail)
        go_wp2_with fail
        go_roundw
        case rel => exact ⟨j + 1, by omega, by go_num, take_snoc_eq HT.out HX.out.1 HX.out.2 HBB.out, bel_dN Hb.out nq⟩
        case measure => simp [intOf]; omega
      · have ht : ((txt b).toList == (txt b').toList) = false := txt_ne hbb
        have HF := hide (show R = false by rw [HR.out]; exact decide_eq_false (ne_at HX.out.1 HX.out.2 hbb))
        clear hbb
        go_upto_region 6 with fail
        go_quiet (fail)
        go_wp2_with fail
        go_ret
        rw [HF.out]
        exact ⟨rfl, bel_dN Hb.out nq⟩
    · have hjs : ¬ (j : Int) < (n : Int) := by omega
      have HF := hide (show R = true by
        rw [HR.out]
        refine decide_eq_true ?_
        have := HT.out
        rwa [List.take_of_length_le (by rw [HL.out.1]; omega), List.take_of_length_le (by rw [HL.out.2]; omega)] at this)
      go_wp2_with fail
      go_ret
      rw [HF.out]
      exact ⟨rfl, Hb.out⟩
/-- A found partial segment of the reference's, as cells; any heads of its lists. -/
def rfC (a : Int) (v : PV) (A1 : Option Addr) (n1 c1 : Nat) (A2 : Option Addr) (n2 c2 : Nat) (T : Option Addr) (m c : Nat) : Array Value := #[.int .i64 a, .int .i64 v.e, .int .i64 v.c, .int .i64 v.i, .int .i64 v.p, .int .i64 v.x, .slice A1 n1 c1, .slice A2 n2 c2, .slice T m c]
theorem fd_rf (a : Int) (v : PV) (B1 : Option Addr) (d1 : Nat) (B2 : Option Addr) (d2 : Nat) (A3 : Option Addr) (n3 c3 : Nat) : fdC a v B1 d1 B2 d2 A3 n3 c3 = rfC a v B1 v.fs.length d1 B2 v.is.length d2 A3 n3 c3 := rfl
set_option maxHeartbeats 4000000 in
theorem same15 (w : World) (a a' : Int) (v u : PV) (A1 A2 T1 B1 B2 T2 : Option Addr) (n1 c1 n2 c2 m1 k1 p1 d1 p2 d2 m2 k2 lo base lo' base' lo2 base2 lo2' base2' Q Q' : Nat) (l l' : List (List UInt8))
    (hf : FisAt lo base w A1 n1 v.fs) (hg : FisAt lo' base' w B1 p1 u.fs) (hi : IntsAt lo2 base2 w A2 n2 v.is) (hj : IntsAt lo2' base2' w B2 p2 u.is)
    (hn1 : n1 ≤ 1000000) (hp1 : p1 ≤ 1000000) (hn2 : n2 ≤ 1000000) (hp2 : p2 ≤ 1000000) (hfl : ∀ f ∈ v.fs, f.ls.length ≤ 1000000) (hgl : ∀ f ∈ u.fs, f.ls.length ≤ 1000000)
    (h : Sl w Q T1 m1 (strC l)) (h' : Sl w Q' T2 m2 (strC l')) (hQ : Q ≤ w.heap.size) (hQ' : Q' ≤ w.heap.size) (hm1 : m1 ≤ 100000) (hm2 : m2 ≤ 100000) :
    Calls Tryd.prog 15 #[.agg (rfC a v A1 n1 c1 A2 n2 c2 T1 m1 k1), .agg (rfC a' u B1 p1 d1 B2 p2 d2 T2 m2 k2)] w fun r w' => r = .returned (.bool (decide (a = a' ∧ v = u ∧ l = l'))) ∧ Below w.heap.size w w' := by
  obtain ⟨w1, hw⟩ : ∃ W, W = (w.alloc (.cells #[.int .i64 a, .int .i64 v.e, .int .i64 v.c, .int .i64 v.i, .int .i64 v.p, .int .i64 v.x, .slice A1 n1 c1, .slice A2 n2 c2, .slice T1 m1 k1] 45)).alloc (.cells #[.int .i64 a', .int .i64 u.e, .int .i64 u.c, .int .i64 u.i, .int .i64 u.p, .int .i64 u.x, .slice B1 p1 d1, .slice B2 p2 d2, .slice T2 m2 k2] 45) := ⟨_, rfl⟩
  have X2 : Hid (Blk w1 w.heap.size 45 #[.int .i64 a, .int .i64 v.e, .int .i64 v.c, .int .i64 v.i, .int .i64 v.p, .int .i64 v.x, .slice A1 n1 c1, .slice A2 n2 c2, .slice T1 m1 k1]) := hide (by rw [hw]; exact (Blk.new _ _ _).alloc _)
  have X3 : Hid (Blk w1 (w.heap.size + 1) 45 #[.int .i64 a', .int .i64 u.e, .int .i64 u.c, .int .i64 u.i, .int .i64 u.p, .int .i64 u.x, .slice B1 p1 d1, .slice B2 p2 d2, .slice T2 m2 k2]) := hide (by
    rw [hw]
    have := Blk.new (w.alloc (.cells #[.int .i64 a, .int .i64 v.e, .int .i64 v.c, .int .i64 v.i, .int .i64 v.p, .int .i64 v.x, .slice A1 n1 c1, .slice A2 n2 c2, .slice T1 m1 k1] 45)) 45 #[.int .i64 a', .int .i64 u.e, .int .i64 u.c, .int .i64 u.i, .int .i64 u.p, .int .i64 u.x, .slice B1 p1 d1, .slice B2 p2 d2, .slice T2 m2 k2]
    simpa using this)
  have ba : Below w.heap.size w w1 := by rw [hw]; exact ((Below.refl _ _).alloc (Nat.le_refl _) _).alloc (by simp) _
  have BW := hide ba
  have SM := hide (same_pv v u A1 A2 B1 B2 n1 c1 n2 c2 p1 d1 p2 d2 _ _ _ _ _ _ _ _ w1 (hf.below ba) (hg.below ba) (RwAt.below hi ba) (RwAt.below hj ba) hn1 hp1 hn2 hp2 hfl hgl)
  have H := hide ((h.below (ba.mono hQ)).more (Nat.le_trans hQ ba.size))
  have H' := hide ((h'.below (ba.mono hQ')).more (Nat.le_trans hQ' ba.size))
  unfold partC at SM
  obtain ⟨R, hR⟩ : ∃ R, R = decide (a = a' ∧ v = u ∧ l = l') := ⟨_, rfl⟩
  have HR := hide hR
  rw [← hR]
  clear hR hf hg hi hj hfl hgl h h' hQ hQ'
  unfold rfC
  go_enter Tryd.func15, Tryd.ntmps15
  go_upto_region 1 with fail
  rw [← hw]
  obtain ⟨g2, hg2⟩ : ∃ g, g = w.heap.size := ⟨_, rfl⟩
  rw [← hg2] at X2 X3 ⊢
  obtain ⟨g3, hg3⟩ : ∃ g, g = g2 + 1 := ⟨_, rfl⟩
  rw [← hg3] at X3 ⊢
  clear hw ba hg2 hg3
  obtain ⟨y0, y1, y2, y3, y4, y5, y6, y7, y8⟩ := op9S X2.out
  obtain ⟨x0, x1, x2, x3, x4, x5, x6, x7, x8⟩ := op9S X3.out
  by_cases ha : a = a'
  rotate_left
  · have hne : (a == a') = false := by simpa using ha
    have HF := hide (show R = false by rw [HR.out]; exact decide_eq_false (fun e => ha e.1))
    clear ha
    go_wp2_with fail
    go_ret
    rw [HF.out]
    exact ⟨rfl, BW.out⟩
  subst ha
  by_cases hv : v = u
  rotate_left
  · rw [decide_eq_false hv] at SM
    have HF := hide (show R = false by rw [HR.out]; exact decide_eq_false (fun e => hv e.2.1))
    clear hv
    go_wp2_with fail
    refine SM.out.mono ?_
    rintro r w2 ⟨rfl, hb⟩
    have B2 := hide (BW.out.trans (hb.mono BW.out.size))
    clear y0 y1 y2 y3 y4 y5 y6 y7 y8 x0 x1 x2 x3 x4 x5 x6 x7 x8 hb
    go_wp2_with fail
    go_ret
    rw [HF.out]
    exact ⟨rfl, B2.out⟩
  rw [decide_eq_true hv] at SM
  have HV := hide hv
  clear hv
  go_wp2_with fail
  refine SM.out.mono ?_
  rintro r w2 ⟨rfl, hb⟩
  have B2 := hide (BW.out.trans (hb.mono BW.out.size))
  have TX := hide (texts_any w2 T1 T2 m1 k1 m2 k2 _ _ l l' (H.out.below hb) (H'.out.below hb) hb.size hb.size hm1 hm2)
  have z8 := (X2.out.below hb).cell 8
  have u8 := (X3.out.below hb).cell 8
  simp only [List.getElem?_toArray, List.getElem?_cons_succ, List.getElem?_cons_zero] at z8 u8
  have e : R = decide (l = l') := by
    rw [HR.out]
    exact decide_eq_decide.2 ⟨fun h => h.2.2, fun h => ⟨trivial, HV.out, h⟩⟩
  rw [← e] at TX
  clear y0 y1 y2 y3 y4 y5 y6 y7 y8 x0 x1 x2 x3 x4 x5 x6 x7 x8 hb e
  go_wp2_with fail
  refine TX.out.mono ?_
  rintro r w3 ⟨rfl, hb⟩
  have B3 := hide (B2.out.trans (hb.mono B2.out.size))
  clear hb
  go_wp2_with fail
  go_ret
  exact ⟨rfl, B3.out⟩
end Go.Proofs.YtlobkefacnedeaaDoor

/- The walk over the reference's Read. -/
namespace Go.Proofs.YtlobkefacnedeaaDoor
open Go.RowKit
set_option maxRecDepth 100000

theorem own_cell {w : World} {base n c k : Nat} {e : TypeId} {A : Option Addr} {xs : List Value} (h : w.ownsRow base e k (.slice A n c) n xs) (i : Nat) (u : Value) (hu : xs[i]? = some u) : ∃ g, A = some ⟨g, 0, none⟩ ∧ w.cell? ⟨g, i, none⟩ = some u := by
  have hl := (List.getElem?_eq_some_iff.1 hu).1
  have h1 := h.1
  rcases h.2 with ⟨h0, rfl⟩ | ⟨g, cap, cur, h2, h3, h4, h5, h6, h7, h8⟩
  · rw [h1, Nat.zero_mul] at hl; omega
  · injection h2 with e1 e2 e3
    refine ⟨g, e1, ?_⟩
    rw [cell_of_row w g i cur _ (0, 0) h4]
    have : (cur.toList.take (n * k))[i]? = some u := by rw [h8]; exact hu
    rw [List.getElem?_take] at this
    split at this
    · simpa using this
    · cases this
theorem wsC_get (q : List (Nat × List UInt8)) (j : Nat) (x : Nat × List UInt8) (hx : q[j]? = some x) : (wsC q)[j * 2]? = some (.int .i64 (x.1 : Int)) ∧ (wsC q)[j * 2 + 1]? = some (.string (txt x.2)) := by
  have h := fun o v hv => fl_mid (f := fun x : Nat × List UInt8 => [Value.int .i64 (x.1 : Int), Value.string (txt x.2)]) (k := 2) q (fun _ _ => rfl) j x hx o v hv
  exact ⟨h 0 _ rfl, h 1 _ rfl⟩
section
variable {w w' : World} {base cs cq : Nat} {As Aq : Option Addr} {D : Dsk}
theorem RefM.atS (h : RefM w base As cs Aq cq D) (i : Nat) (b : List UInt8) (hb : D.sure[i]? = some b) : ∃ g, As = some ⟨g, 0, none⟩ ∧ w.cell? ⟨g, i, none⟩ = some (.string (txt b)) :=
  own_cell h.s i _ (by simp [strC, hb])
theorem RefM.atQ (h : RefM w base As cs Aq cq D) (j : Nat) (x : Nat × List UInt8) (hx : D.queue[j]? = some x) : ∃ g, Aq = some ⟨g, 0, none⟩ ∧ w.cell? ⟨g, j * 2, none⟩ = some (.int .i64 (x.1 : Int)) ∧ w.cell? ⟨g, j * 2 + 1, none⟩ = some (.string (txt x.2)) := by
  obtain ⟨g, e, c1⟩ := own_cell h.q (j * 2) _ (wsC_get D.queue j x hx).1
  obtain ⟨g', e', c2⟩ := own_cell h.q (j * 2 + 1) _ (wsC_get D.queue j x hx).2
  rw [e] at e'
  injection e' with e'
  injection e' with e'
  subst e'
  exact ⟨g, e, c1, c2⟩
end

set_option maxHeartbeats 400000 in
theorem rread_any (w : World) (base : Nat) (As : Option Addr) (cs : Nat) (Aq : Option Addr) (cq : Nat) (D : Dsk) (h : RefM w base As cs Aq cq D) (i : Nat) (hi : i < D.sure.length) :
    Calls Tryd.prog 25 #[.agg (refV As cs Aq cq D), .int .i64 (i : Int)] w fun e w' => e = .returned (.string (txt (D.read i))) ∧ Below w.heap.size w w' := by
  have hb := List.getElem?_eq_getElem hi
  have h1 := h.below ((Below.refl w.heap.size w).alloc (Nat.le_refl _) (.cells (refV As cs Aq cq D) 51))
  obtain ⟨gs, hAs, c1⟩ := h1.atS i _ hb
  have H1 := hide h1
  have hn := h.ok.n
  have hqn := h.ok.qn
  have hread : D.read i = readQ D.queue i D.sure[i] := by unfold Dsk.read; rw [List.getD_eq_getElem?_getD, hb]; rfl
  rw [hread]
  generalize D.sure[i] = b0 at *
  subst hAs
  clear hb hread h1 h
  unfold refV at *
  go_enter Tryd.func25, Tryd.ntmps25
  go_wp2_with fail
  go_loop [5, 15] (fun x y => ∃ j : Nat, j ≤ D.queue.length ∧ x = .string (txt (readQ (D.queue.take j) i b0)) ∧ y = .int .i64 (j : Int)) (fun _ y => D.queue.length - (intOf y).toNat)
  case atStart => exact ⟨0, Nat.zero_le _, rfl, rfl⟩
  case round =>
    obtain ⟨j, hj, rfl, rfl⟩ := hrel
    clear c1
    by_cases hlt : j < D.queue.length
    · obtain ⟨x, hx⟩ : ∃ x, D.queue[j]? = some x := ⟨_, List.getElem?_eq_getElem hlt⟩
      obtain ⟨gq, hAq, c2, c3⟩ := H1.out.atQ j x hx
      have hst := hide (readQ_step D.queue i j b0 x hx)
      subst hAq
      clear hx
      generalize hr : readQ (D.queue.take j) i b0 = rj at *
      replace hr := hide hr
      by_cases hxi : x.1 = i
      · go_wp2_with fail
        go_round
        case rel => exact ⟨j + 1, by omega, by rw [hst.out, if_pos hxi], by go_num⟩
        case measure => simp [intOf]; omega
      · go_wp2_with fail
        go_round
        case rel => exact ⟨j + 1, by omega, by rw [hst.out, if_neg hxi], by go_num⟩
        case measure => simp [intOf]; omega
    · have hjn : j = D.queue.length := by omega
      have hall : D.queue.take j = D.queue := List.take_of_length_le (by omega)
      rw [hall]
      clear hall hjn
      go_wp2_with fail
      go_ret
      exact ⟨rfl, (Below.refl _ _).alloc (Nat.le_refl _) _⟩
end Go.Proofs.YtlobkefacnedeaaDoor

/- append of one row of the call's own onto another, of elements of any size. -/
namespace Go.Proofs.YtlobkefacnedeaaDoor
open Go.RowKit
set_option maxRecDepth 100000

theorem own_formk {w : World} {base n k : Nat} {e : TypeId} {v : Value} {xs : List Value} (h : w.ownsRow base e k v n xs) : ∃ A c, v = .slice A n c := by
  rcases h.2 with ⟨rfl, rfl⟩ | ⟨g, cap, cur, rfl, _⟩
  · exact ⟨none, 0, rfl⟩
  · exact ⟨_, _, rfl⟩
section
variable {P : Program} (w : World)
theorem run_appk {t ty e : TypeId} {ie : TypeInfo} {z : Value} {size bytes : Nat} (hu : P.underlying t = some (.slice e)) (hi : P.info? e = some ie) (hz : ie.zero = some z) (hs : ie.size = size) (hb : ie.bytes = bytes) (hzs : z.cells.size = size) (hsz : 0 < size) (hpb : 0 < bytes)
    (base : Nat) (v : Value) (n : Nat) (xs : List Value) (hown : w.ownsRow base e size v n xs)
    (base' : Nat) (A : Option Addr) (m c : Nat) (news : List Value) (hr : w.ownsRow base' e size (.slice A m c) m news) (h1 : ∀ u ∈ news, u.oneCell' = true)
    (hbytes : (n + m) * bytes ≤ 140737488355328) (hbase : base ≤ w.heap.size) :
    ∃ A' c' w', (Builtin.append_ #[t, t] ty #[v, .slice A m c]).run P w = .ok (.slice A' (n + m) c') w' ∧ w'.ownsRow base e size (.slice A' (n + m) c') (n + m) (xs ++ news) ∧
      w.grownBy w' v.ownBlock ∧ ((Value.slice A' (n + m) c').ownBlock = v.ownBlock ∨ (Value.slice A' (n + m) c').ownBlock = some w.heap.size) := by
  have hle : n + m ≤ 140737488355328 := Nat.le_trans (Nat.le_mul_of_pos_right _ hpb) hbytes
  have h63 : n + m ≤ maxLen := by simp only [maxLen]; omega
  rcases A with _ | ad
  · have hm : m = 0 := by
      rcases hr.2 with ⟨_, h0⟩ | ⟨g, cap, cur, h, _⟩
      · exact h0
      · cases h
    subst hm
    have hn : news = [] := List.eq_nil_of_length_eq_zero (by have := hr.1; omega)
    subst hn
    obtain ⟨A, c1, rfl⟩ := own_formk hown
    refine ⟨A, c1, w, ?_, by simpa using hown, ⟨rfl, rfl, rfl, Nat.le_refl _, fun _ _ _ => rfl⟩, .inl rfl⟩
    rcases hown.2 with ⟨hv, rfl⟩ | ⟨g, cap, cur, hv, _, _, hnc, _⟩
    · injection hv with hv1 _ hv2
      subst hv1 hv2
      simp [Builtin.append_, run_underlying hu, sizeOf, typeInfo, hi, Builtin.lenOf, Builtin.firstCells]
    · injection hv with hv1 _ hv2
      subst hv1 hv2
      simp [Builtin.append_, run_underlying hu, sizeOf, typeInfo, hi, Builtin.lenOf, Builtin.firstCells, hnc, storeCells]
  · have hcells : ∀ j u, news[j]? = some u → w.cell? (ad.add j) = some u := by
      intro j u hu
      obtain ⟨g, h, hc⟩ := own_cell hr j u hu
      injection h with h
      subst h
      rw [Addr.add_mid, Nat.zero_add]
      exact hc
    obtain ⟨v', w', hrun, h2, h3, _, h5⟩ := run_append_own_at (P := P) w base t ty e ie z size bytes hu hi hz hs hb hzs hsz v n xs hown ad m c news hr.1 hcells h1 h63 hbytes hbase
    obtain ⟨A', c', rfl⟩ := own_formk h2
    exact ⟨A', c', w', hrun, h2, h3, h5⟩
theorem wp_appk {o : Oper} {a : Act} {K : Act → World → Prop} {Q : Exit → Act → World → Prop} (s x : Operand) (t : TypeId)
    (ho : o.op = .call { callee := .builtin .append, args := #[s, x], argTypes := #[t, t] })
    {e : TypeId} {ie : TypeInfo} {z : Value} {size bytes : Nat} (hu : P.underlying t = some (.slice e)) (hi : P.info? e = some ie) (hz : ie.zero = some z) (hs : ie.size = size) (hb : ie.bytes = bytes) (hzs : z.cells.size = size) (hsz : 0 < size) (hpb : 0 < bytes)
    (base : Nat) (v : Value) (n : Nat) (xs : List Value) (hsv : a.eval s = v) (hown : w.ownsRow base e size v n xs)
    (base' : Nat) (A : Option Addr) (m c : Nat) (news : List Value) (hx : a.eval x = .slice A m c) (hr : w.ownsRow base' e size (.slice A m c) m news) (h1 : ∀ u ∈ news, u.oneCell' = true)
    (hbytes : (n + m) * bytes ≤ 140737488355328) (hbase : base ≤ w.heap.size)
    (h : ∀ A' c' w', w'.ownsRow base e size (.slice A' (n + m) c') (n + m) (xs ++ news) → w.grownBy w' v.ownBlock →
      ((Value.slice A' (n + m) c').ownBlock = v.ownBlock ∨ (Value.slice A' (n + m) c').ownBlock = some w.heap.size) → K (a.put o.dst (.slice A' (n + m) c')) w') : o.wp P a w K Q := by
  obtain ⟨A', c', w', hrun, h2, h3, h4⟩ := run_appk (P := P) w (ty := o.type) hu hi hz hs hb hzs hsz hpb base v n xs hown base' A m c news hr h1 hbytes hbase
  unfold Oper.wp execOp
  simp only [ho, resolve, invoke, builtin, Sem.run_bind, Sem.run_pure, Result.andThen_ok, List.map_toArray, List.map_cons, List.map_nil, hsv, hx, hrun]
  exact h A' c' w' h2 h3 h4
theorem wpList_appk {ops : Array Oper} {rest : List Oper} {o : Oper} {a : Act} {Q : Exit → Act → World → Prop} (hgd : o.guard = none) (s x : Operand) (t : TypeId)
    (ho : o.op = .call { callee := .builtin .append, args := #[s, x], argTypes := #[t, t] })
    {e : TypeId} {ie : TypeInfo} {z : Value} {size bytes : Nat} (hu : P.underlying t = some (.slice e)) (hi : P.info? e = some ie) (hz : ie.zero = some z) (hs : ie.size = size) (hb : ie.bytes = bytes) (hzs : z.cells.size = size) (hsz : 0 < size) (hpb : 0 < bytes)
    (base : Nat) (v : Value) (n : Nat) (xs : List Value) (hsv : a.eval s = v) (hown : w.ownsRow base e size v n xs)
    (base' : Nat) (A : Option Addr) (m c : Nat) (news : List Value) (hx : a.eval x = .slice A m c) (hr : w.ownsRow base' e size (.slice A m c) m news) (h1 : ∀ u ∈ news, u.oneCell' = true)
    (hbytes : (n + m) * bytes ≤ 140737488355328) (hbase : base ≤ w.heap.size)
    (h : ∀ A' c' w', w'.ownsRow base e size (.slice A' (n + m) c') (n + m) (xs ++ news) → w.grownBy w' v.ownBlock →
      ((Value.slice A' (n + m) c').ownBlock = v.ownBlock ∨ (Value.slice A' (n + m) c').ownBlock = some w.heap.size) → wpList P ops Q rest (a.put o.dst (.slice A' (n + m) c')) w') : wpList P ops Q (o :: rest) a w :=
  wpList_plain hgd fun _ hK => wp_appk w s x t ho hu hi hz hs hb hzs hsz hpb base v n xs hsv hown base' A m c news hx hr h1 hbytes hbase fun A' c' w' h2 h3 h4 => hK _ _ (h A' c' w' h2 h3 h4)
end
theorem own_made {w : World} {base k : Nat} {e : TypeId} (hb : base ≤ w.heap.size) : (w.alloc (.cells #[] e)).ownsRow base e k (.slice (some ⟨w.heap.size, 0, none⟩) 0 0) 0 [] :=
  ⟨by simp, .inr ⟨w.heap.size, 0, #[], rfl, hb, heap_alloc_new w _, Nat.le_refl _, by simp [maxLen], by simp, by simp⟩⟩
theorem wr_info : ∃ ie, Tryd.prog.info? 110 = some ie ∧ ie.zero = some (.agg #[.int .i64 0, .string ⟨#[]⟩]) ∧ ie.size = 2 ∧ ie.bytes = 24 :=
  info_parts (show (Tryd.prog.info? 110).map (fun i => (i.zero, i.size, i.bytes)) = some (some (.agg #[.int .i64 0, .string ⟨#[]⟩]), 2, 24) by kernel_rfl)
theorem str_info : ∃ ie, Tryd.prog.info? 9 = some ie ∧ ie.zero = some (.string ⟨#[]⟩) ∧ ie.size = 1 ∧ ie.bytes = 16 :=
  info_parts (show (Tryd.prog.info? 9).map (fun i => (i.zero, i.size, i.bytes)) = some (some (.string ⟨#[]⟩), 1, 16) by kernel_rfl)
theorem wsC_one (q : List (Nat × List UInt8)) : ∀ u ∈ wsC q, u.oneCell' = true := fun u hu => by
  simp only [wsC, List.mem_flatMap, List.mem_cons, List.not_mem_nil, or_false] at hu
  obtain ⟨x, _, rfl | rfl⟩ := hu <;> rfl
theorem strC_one (l : List (List UInt8)) : ∀ u ∈ strC l, u.oneCell' = true := fun u hu => by
  simp only [strC, List.mem_map] at hu
  obtain ⟨x, _, rfl⟩ := hu
  rfl
end Go.Proofs.YtlobkefacnedeaaDoor

/- The walk over the reference's Put. -/
namespace Go.Proofs.YtlobkefacnedeaaDoor
open Go.RowKit
set_option maxRecDepth 100000

theorem two_boxes {w w1 : World} {t : TypeId} {xs ys : Array Value} (h : Below ((w.alloc (.cells xs t)).alloc (.cells ys t)).heap.size ((w.alloc (.cells xs t)).alloc (.cells ys t)) w1) :
    Blk w1 w.heap.size t xs ∧ Blk w1 (w.heap.size + 1) t ys ∧ Below w.heap.size w w1 ∧ w.heap.size + 2 ≤ w1.heap.size := by
  have h2 : Blk ((w.alloc (.cells xs t)).alloc (.cells ys t)) (w.heap.size + 1) t ys := by
    have := Blk.new (w.alloc (.cells xs t)) t ys
    rwa [World.size_alloc] at this
  refine ⟨((Blk.new w t xs).alloc _).below h, h2.below h, (((Below.refl w.heap.size w).alloc (Nat.le_refl _) _).alloc (by simp) _).trans (h.mono (by simp; omega)), ?_⟩
  have := h.size
  simpa using this
theorem blk4 {w : World} {g : Nat} {t : TypeId} {x0 x1 x2 x3 : Value} (h : Blk w g t #[x0, x1, x2, x3]) :
    w.cell? ⟨g, 0, none⟩ = some x0 ∧ w.cell? ⟨g, 1, none⟩ = some x1 ∧ w.cell? ⟨g, 2, none⟩ = some x2 ∧ w.cell? ⟨g, 3, none⟩ = some x3 ∧
    w.frozen? ⟨g, 0, none⟩ = false ∧ w.frozen? ⟨g, 1, none⟩ = false ∧ w.frozen? ⟨g, 2, none⟩ = false ∧ w.frozen? ⟨g, 3, none⟩ = false :=
  ⟨h.cell 0, h.cell 1, h.cell 2, h.cell 3, h.frozen 0, h.frozen 1, h.frozen 2, h.frozen 3⟩
theorem set4 {w : World} {g : Nat} {t : TypeId} {x0 x1 x2 x3 : Value} (h : Blk w g t #[x0, x1, x2, x3]) (y0 y1 y2 y3 : Value) :
    Blk ((((w.setCell ⟨g, 0, none⟩ y0).setCell ⟨g, 1, none⟩ y1).setCell ⟨g, 2, none⟩ y2).setCell ⟨g, 3, none⟩ y3) g t #[y0, y1, y2, y3] := (((h.set 0 y0).set 1 y1).set 2 y2).set 3 y3
theorem far4 {w : World} {g g' : Nat} {t : TypeId} {cs : Array Value} (h : Blk w g t cs) (hn : g ≠ g') (y0 y1 y2 y3 : Value) :
    Blk ((((w.setCell ⟨g', 0, none⟩ y0).setCell ⟨g', 1, none⟩ y1).setCell ⟨g', 2, none⟩ y2).setCell ⟨g', 3, none⟩ y3) g t cs :=
  (((h.far (p := ⟨g', 0, none⟩) hn y0).far (p := ⟨g', 1, none⟩) hn y1).far (p := ⟨g', 2, none⟩) hn y2).far (p := ⟨g', 3, none⟩) hn y3
theorem bel4 {w0 w : World} {B g' : Nat} (h : Below B w0 w) (hn : B ≤ g') (y0 y1 y2 y3 : Value) :
    Below B w0 ((((w.setCell ⟨g', 0, none⟩ y0).setCell ⟨g', 1, none⟩ y1).setCell ⟨g', 2, none⟩ y2).setCell ⟨g', 3, none⟩ y3) :=
  (((h.setCell (p := ⟨g', 0, none⟩) hn y0).setCell (p := ⟨g', 1, none⟩) hn y1).setCell (p := ⟨g', 2, none⟩) hn y2).setCell (p := ⟨g', 3, none⟩) hn y3
theorem rput_no (As : Option Addr) (cs : Nat) (Aq : Option Addr) (cq : Nat) (D : Dsk) (i : Int) (b : List UInt8) (w : World) (hi : ¬ (0 ≤ i ∧ i < D.sure.length) ∨ b.length ≠ 64) (hb : b.length ≤ 9223372036854775807) (hn : D.sure.length ≤ 4096) :
    Calls Tryd.prog 78 #[.agg (refV As cs Aq cq D), .int .i64 i, .string (txt b)] w fun e w' => e = .returned (.tuple #[.agg (refV As cs Aq cq D), .int .i64 22]) ∧ Below w.heap.size w w' := by
  have hsz : (txt b).size = b.length := by simp [txt, ByteArray.size]
  unfold refV
  by_cases h1 : i < 0
  · clear hi
    go_enter Tryd.func78, Tryd.ntmps78
    go_wp2_with fail
    exact bodyPost_ret (v := .tuple #[.agg _, _]) (by simp [results, Tryd.results78, go_sem]) rfl ⟨rfl, ((Below.refl _ _).alloc (Nat.le_refl _) _).alloc (by simp) _⟩
  · by_cases h2 : (D.sure.length : Int) ≤ i
    · clear hi
      go_enter Tryd.func78, Tryd.ntmps78
      go_wp2_with fail
      exact bodyPost_ret (v := .tuple #[.agg _, _]) (by simp [results, Tryd.results78, go_sem]) rfl ⟨rfl, ((Below.refl _ _).alloc (Nat.le_refl _) _).alloc (by simp) _⟩
    · have h3 : ¬ (b.length : Int) = 64 := by omega
      clear hi
      go_enter Tryd.func78, Tryd.ntmps78
      go_wp2_with fail
      exact bodyPost_ret (v := .tuple #[.agg _, _]) (by simp [results, Tryd.results78, go_sem]) rfl ⟨rfl, ((Below.refl _ _).alloc (Nat.le_refl _) _).alloc (by simp) _⟩
theorem rput_dead (As : Option Addr) (cs : Nat) (Aq : Option Addr) (cq : Nat) (D : Dsk) (i : Nat) (b : List UInt8) (w : World) (hi : i < D.sure.length) (hb : b.length = 64) (hl : D.left = 0) (hn : D.sure.length ≤ 4096) :
    Calls Tryd.prog 78 #[.agg (refV As cs Aq cq D), .int .i64 (i : Int), .string (txt b)] w fun e w' => e = .returned (.tuple #[.agg (refV As cs Aq cq D), .int .i64 102]) ∧ Below w.heap.size w w' := by
  have hsz : (txt b).size = 64 := by simp [txt, ByteArray.size, hb]
  have C := hide (fun w => rstep_dead As cs Aq cq D w hl)
  unfold refV at C ⊢
  clear hl
  go_enter Tryd.func78, Tryd.ntmps78
  go_wp2_with fail
  refine (C.out _).mono ?_
  rintro e w1 ⟨rfl, hb1⟩
  obtain ⟨K1, K2, hb, hs⟩ := two_boxes hb1
  obtain ⟨c0, c1, c2, c3, f0, f1, f2, f3⟩ := blk4 K1
  obtain ⟨d0, d1, d2, d3, e0, e1, e2, e3⟩ := blk4 K2
  have Hb := hide hb
  clear hb1 hb hs K1 K2
  go_wp2_with fail
  exact bodyPost_ret (v := .tuple #[.agg _, _]) (by simp [results, Tryd.results78, go_sem, d0, d1, d2, d3]) rfl ⟨rfl, bel4 (bel4 Hb.out (Nat.le_refl _) _ _ _ _) (Nat.le_succ _) _ _ _ _⟩

theorem Dsk.Ok.wrote {D : Dsk} (h : D.Ok) (hs : D.steps < 1000000) (hq : D.queue.length < 1000000) {i : Nat} {b : List UInt8} (hi : i < D.sure.length) (hb : b.length = 64) : (D.wrote i b).Ok :=
  { h.stepped hs with q := (fun x hx => by
      rcases List.mem_append.1 hx with hx | hx
      · exact h.q x hx
      · rw [List.mem_singleton] at hx
        subst hx
        exact ⟨hb, hi⟩), qn := (by show (D.queue ++ [(i, b)]).length ≤ 1000000; simp; omega) }
set_option maxHeartbeats 1000000 in
theorem rput_ok (base : Nat) (As : Option Addr) (cs : Nat) (Aq : Option Addr) (cq : Nat) (D : Dsk) (i : Nat) (b : List UInt8) (w : World) (h : RefM w base As cs Aq cq D) (hbs : base ≤ w.heap.size) (hi : i < D.sure.length) (hb : b.length = 64) (hl : D.left ≠ 0) (hs : D.steps < 1000000) (hq : D.queue.length < 1000000) :
    Calls Tryd.prog 78 #[.agg (refV As cs Aq cq D), .int .i64 (i : Int), .string (txt b)] w fun e w' => ∃ A' c', e = .returned (.tuple #[.agg (refV As cs A' c' (D.wrote i b)), .int .i64 0]) ∧ RefM w' base As cs A' c' (D.wrote i b) ∧ Below w.heap.size w w' ∧ (∀ g, (Value.slice A' 0 0).ownBlock = some g → w.heap.size ≤ g) := by
  have hsz : (txt b).size = 64 := by simp [txt, ByteArray.size, hb]
  have hok := h.ok.wrote hs hq hi hb
  have C := hide (fun w => rstep_ok As cs Aq cq D w hl h.ok hs)
  have hn := h.ok.n
  have H := hide h
  unfold refV at C ⊢
  have hs1 : D.stepped.sure.length = D.sure.length := rfl
  have hs2 : D.stepped.queue.length = D.queue.length := rfl
  rw [hs1, hs2] at C
  generalize hst : (D.stepped.steps : Int) = st at *
  generalize hlf : D.stepped.left = lf at *
  replace hst := hide hst
  replace hlf := hide hlf
  replace hok := hide hok
  clear hl h hs1 hs2
  go_enter Tryd.func78, Tryd.ntmps78
  go_wp2_with fail
  refine (C.out _).mono ?_
  rintro e w1 ⟨rfl, hb1⟩
  obtain ⟨K1, K2, hb, hs⟩ := two_boxes hb1
  have HK1 := hide K1
  have HK2 := hide K2
  obtain ⟨c0, c1, c2, c3, f0, f1, f2, f3⟩ := blk4 K1
  have Hb := hide hb
  clear hb1 hb hs K1 K2 C
  go_upto_region 6 with fail
  have J1 := hide (set4 HK1.out (.slice As D.sure.length cs) (.slice Aq D.queue.length cq) (.int .i64 st) (.int .i64 lf))
  have J2 := hide (far4 HK2.out (Nat.succ_ne_self _) (.slice As D.sure.length cs) (.slice Aq D.queue.length cq) (.int .i64 st) (.int .i64 lf))
  have Hb2 := hide (bel4 Hb.out (Nat.le_refl _) (.slice As D.sure.length cs) (.slice Aq D.queue.length cq) (.int .i64 st) (.int .i64 lf))
  clear c0 c1 c2 c3 f0 f1 f2 f3 HK1 HK2 Hb
  generalize (((w1.setCell ⟨w.heap.size, 0, none⟩ (.slice As D.sure.length cs)).setCell ⟨w.heap.size, 1, none⟩ (.slice Aq D.queue.length cq)).setCell ⟨w.heap.size, 2, none⟩ (.int .i64 st)).setCell ⟨w.heap.size, 3, none⟩ (.int .i64 lf) = w2 at *
  have c1 : (w2.alloc (.cells #[] 110)).cell? ⟨w.heap.size, 1, none⟩ = some (.slice Aq D.queue.length cq) := (J1.out.alloc _).cell 1
  have hs2 : Hid (w.heap.size + 2 ≤ w2.heap.size) := hide (by have := J2.out.lt; omega)
  go_wp2_with (
    at_builtin
    obtain ⟨ie, hie, z1, z2, z3⟩ := wr_info
    refine wpList_appk _ rfl (.tmp 32) (.tmp 34) _ rfl Tryd.underlying49 hie z1 z2 z3 rfl (by decide) (by decide) w.heap.size (.slice (some ⟨w2.heap.size, 0, none⟩) 0 0) 0 [] rfl (own_made Hb2.out.size) base Aq D.queue.length cq (wsC D.queue) rfl
      (own_kp (H.out.below Hb2.out).q (Kp.of_below (gs := []) ((Below.refl _ _).alloc (Nat.le_refl _) _)) (by simp)) (wsC_one _) (by omega) (Nat.le_trans Hb2.out.size (by simp)) ?_
    intro A3 c3 w3 hown3 hg3 hat3
    simp only [Nat.zero_add, List.nil_append] at hown3 hat3
    have L1 := hide (blk_grown (J1.out.alloc (.cells #[] 110)) hg3 (by simp [Value.ownBlock]; have := J1.out.lt; omega))
    have L2 := hide (blk_grown (J2.out.alloc (.cells #[] 110)) hg3 (by simp [Value.ownBlock]; have := J2.out.lt; omega))
    have Lb := hide (bel_grow (Hb2.out.alloc Hb2.out.size (.cells #[] 110)) hg3 (fun k hk => by simp only [Value.ownBlock, Option.some.injEq] at hk; have := hs2.out; omega) (Nat.le_trans Hb2.out.size (by simp)))
    have Ho := hide hown3
    have Ha := hide (show ∀ g, (Value.slice A3 D.queue.length c3).ownBlock = some g → w.heap.size + 2 ≤ g ∧ g < w3.heap.size from fun g hg => ⟨by
      have := hs2.out
      rcases hat3 with h | h
      · rw [hg] at h; simp [Value.ownBlock] at h; omega
      · rw [hg] at h; simp at h; omega, (hown3.lt g hg).2⟩)
    have hs3 : w.heap.size ≤ w3.heap.size := Lb.out.size
    clear hown3 hg3 hat3
    go_wp2_with (
      at_builtin
      refine wpList_append_lies _ rfl (.tmp 35) (.tmp 39) _ rfl w.heap.size 110 ie _ 2 24 Tryd.underlying49 hie z1 z2 z3 rfl (by decide) (.slice A3 D.queue.length c3) D.queue.length (wsC D.queue) rfl (own_kp Ho.out (Kp.of_below (gs := []) ((Below.refl _ _).alloc (Nat.le_refl _) _)) (by simp)) ⟨w3.heap.size, 0, none⟩ 1 1 [.int .i64 (i : Int), .string (txt b)] rfl
        rfl (World.news_of_block (heap_alloc_new w3 (.cells #[.int .i64 (i : Int), .string (txt b)] 110))) (by intro u hu; simp at hu; rcases hu with rfl | rfl <;> rfl) (by decide) (by simp only [maxLen]; omega) (by omega) (Nat.le_trans hs3 (by simp)) _ rfl ?_
      intro g4 c4 w4 hown4 hg4 hat4 hlt4
      have M1 := hide (blk_grown (L1.out.alloc (.cells #[.int .i64 (i : Int), .string (txt b)] 110)) hg4 (fun e => by have := (Ha.out _ e.symm).1; omega))
      have M2 := hide (blk_grown (L2.out.alloc (.cells #[.int .i64 (i : Int), .string (txt b)] 110)) hg4 (fun e => by have := (Ha.out _ e.symm).1; omega))
      have Mb := hide (bel_grow (Lb.out.alloc hs3 (.cells #[.int .i64 (i : Int), .string (txt b)] 110)) hg4 (fun k hk => by have := (Ha.out k hk).1; omega) (Nat.le_trans hs3 (by simp)))
      have Mo := hide hown4
      have Mg : Hid (w.heap.size + 2 ≤ g4) := hide (by
        rcases hat4 with h | h
        · exact (Ha.out _ h).1
        · rw [h]; simp; have := L2.out.lt; omega)
      clear hown4 hg4 hat4 hlt4
      obtain ⟨c0, c1, c2, c3, f0, f1, f2, f3⟩ := blk4 M1.out
      obtain ⟨d0, d1, d2, d3, e0, e1, e2, e3⟩ := blk4 M2.out))
  refine bodyPost_ret (v := .tuple #[.agg #[.slice As D.sure.length cs, .slice (some ⟨g4, 0, none⟩) (D.queue.length + 1) c4, .int .i64 st, .int .i64 lf], .int .i64 0]) (by simp [results, Tryd.results78, go_sem, d0, d1, d2, d3]) rfl ?_
  have hbel := bel4 (Mb.out.setCell (p := ⟨w.heap.size, 1, none⟩) (Nat.le_refl _) (.slice (some ⟨g4, 0, none⟩) (D.queue.length + 1) c4)) (Nat.le_succ w.heap.size) (.slice As D.sure.length cs) (.slice (some ⟨g4, 0, none⟩) (D.queue.length + 1) c4) (.int .i64 st) (.int .i64 lf)
  refine ⟨some ⟨g4, 0, none⟩, c4, ?_, ⟨?_, ?_, hok.out⟩, hbel, fun g hg => ?_⟩
  · have e1 : (D.wrote i b).queue.length = D.queue.length + 1 := by simp [Dsk.wrote]
    rw [e1, show ((D.wrote i b).steps : Int) = st from hst.out, show (D.wrote i b).left = lf from hlf.out]
    rfl
  · exact (H.out.below hbel).s
  · have hk : Kp [w.heap.size, w.heap.size + 1] w4 _ := ((((((Kp.refl _ w4).set (p := ⟨w.heap.size, 1, none⟩) (.inl (by simp)) (.slice (some ⟨g4, 0, none⟩) (D.queue.length + 1) c4)).set (p := ⟨w.heap.size + 1, 0, none⟩) (.inl (by simp)) (.slice As D.sure.length cs)).set (p := ⟨w.heap.size + 1, 1, none⟩) (.inl (by simp)) (.slice (some ⟨g4, 0, none⟩) (D.queue.length + 1) c4)).set (p := ⟨w.heap.size + 1, 2, none⟩) (.inl (by simp)) (.int .i64 st)).set (p := ⟨w.heap.size + 1, 3, none⟩) (.inl (by simp)) (.int .i64 lf))
    have := own_base65 (own_kp Mo.out hk (fun g hg => by
      simp only [Value.ownBlock, Option.some.injEq] at hg
      have := Mg.out
      simp; omega)) hbs
    rw [show wsC D.queue ++ [Value.int .i64 (i : Int), Value.string (txt b)] = wsC (D.wrote i b).queue by simp [wsC, Dsk.wrote]] at this
    rw [show (D.wrote i b).queue.length = D.queue.length + 1 by simp [Dsk.wrote]]
    exact this
  · simp only [Value.ownBlock, Option.some.injEq] at hg
    have := Mg.out
    omega
end Go.Proofs.YtlobkefacnedeaaDoor
