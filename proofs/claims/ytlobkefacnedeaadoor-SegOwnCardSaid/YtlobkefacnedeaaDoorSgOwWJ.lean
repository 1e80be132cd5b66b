import Derived.Test.YtlobkefacnedeaaDoorJa12
set_option linter.unusedVariables false
set_option linter.unusedSimpArgs false
/- What a crash leaves of one write, in plain lists. -/
namespace Go.Proofs.YtlobkefacnedeaaDoor
open Go.RowKit
set_option maxRecDepth 100000

theorem spl_pre (p a b : List UInt8) (t : Nat) (hp : p.length = t * 16) : spl (p ++ a.drop (t * 16)) b t = p ++ sect b t ++ a.drop (t * 16 + 16) := by
  unfold spl
  rw [← hp, List.take_left, List.drop_length_add_append, List.drop_drop]
/-- The first m sectors of what a write leaves. -/
def mix (f : Nat → Bool) (a b : List UInt8) : Nat → List UInt8
  | 0 => []
  | m + 1 => mix f a b m ++ (if f m then sect b m else sect a m)
theorem mix_len (f : Nat → Bool) (a b : List UInt8) (ha : a.length = 64) (hb : b.length = 64) : ∀ m, m ≤ 4 → (mix f a b m).length = m * 16
  | 0, _ => rfl
  | m + 1, h => by
    rw [mix, List.length_append, mix_len f a b ha hb m (by omega)]
    split
    · rw [sect_len b m hb (by omega)]; omega
    · rw [sect_len a m ha (by omega)]; omega
theorem sect_drop (a : List UInt8) (m : Nat) : sect a m ++ a.drop ((m + 1) * 16) = a.drop (m * 16) := by
  unfold sect
  have := List.take_append_drop 16 (a.drop (m * 16))
  rwa [List.drop_drop, show m * 16 + 16 = (m + 1) * 16 by omega] at this
theorem crash1_mix (f : Nat → Bool) (x : Nat × List UInt8) (l : List (List UInt8)) (n : Nat) (h : All64 n l) (hx : x.2.length = 64) (hn : x.1 < n) : ∀ m, m ≤ 4 → crash1 f x m l = l.set x.1 (mix f (l.getD x.1 []) x.2 m ++ (l.getD x.1 []).drop (m * 16))
  | 0, _ => by
    have hl : x.1 < l.length := by rw [h.1]; exact hn
    show l = l.set x.1 ([] ++ (l.getD x.1 []).drop (0 * 16))
    rw [Nat.zero_mul, List.drop_zero, List.nil_append, List.getD_eq_getElem?_getD, List.getElem?_eq_getElem hl]
    simp
  | m + 1, hm => by
    have hl : x.1 < l.length := by rw [h.1]; exact hn
    have h0 : (l.getD x.1 []).length = 64 := by
      rw [List.getD_eq_getElem?_getD, List.getElem?_eq_getElem hl]
      exact h.2 _ (List.getElem_mem hl)
    rw [crash1_step, crash1_mix f x l n h hx hn m (by omega), mix]
    split
    · rename_i hf
      unfold cutIn
      rw [List.set_set, List.getD_eq_getElem?_getD (l := l.set _ _), List.getElem?_set_self hl, Option.getD_some]
      rw [spl_pre _ _ _ m (mix_len f _ _ h0 hx m (by omega)), show m * 16 + 16 = (m + 1) * 16 by omega]
    · rw [List.append_assoc, sect_drop]
theorem crash1_four (f : Nat → Bool) (x : Nat × List UInt8) (l : List (List UInt8)) (n : Nat) (h : All64 n l) (hx : x.2.length = 64) (hn : x.1 < n) : crash1 f x 4 l = l.set x.1 (mix f (l.getD x.1 []) x.2 4) := by
  have hl : x.1 < l.length := by rw [h.1]; exact hn
  have h0 : (l.getD x.1 []).length = 64 := by
    rw [List.getD_eq_getElem?_getD, List.getElem?_eq_getElem hl]
    exact h.2 _ (List.getElem_mem hl)
  rw [crash1_mix f x l n h hx hn 4 (Nat.le_refl _), List.drop_of_length_le (by omega), List.append_nil]
end Go.Proofs.YtlobkefacnedeaaDoor

/- DiskOrder in plain lists. -/
namespace Go.Proofs.YtlobkefacnedeaaDoor
open Go.RowKit
set_option maxRecDepth 100000

theorem sect_whole (b : List UInt8) (h : b.length = 64) : sect b 0 ++ sect b 1 ++ sect b 2 ++ sect b 3 = b := by
  unfold sect
  have e3 : (b.drop (3 * 16)).take 16 = b.drop 48 := List.take_of_length_le (by simp; omega)
  have h1 : ∀ k n : Nat, (b.drop k).take n ++ b.drop (k + n) = b.drop k := fun k n => by
    have := List.take_append_drop n (b.drop k)
    rwa [List.drop_drop] at this
  rw [e3]
  have a2 := h1 32 16
  have a1 := h1 16 16
  have a0 := h1 0 16
  simp only [List.append_assoc]
  show (b.drop 0).take 16 ++ ((b.drop 16).take 16 ++ ((b.drop 32).take 16 ++ b.drop 48)) = b
  rw [a2, a1, a0]; rfl
theorem spl_four (a b : List UInt8) (ha : a.length = 64) (hb : b.length = 64) : spl (spl (spl (spl a b 0) b 1) b 2) b 3 = b := by
  have l0 := sect_len b 0 hb (by decide)
  have l1 := sect_len b 1 hb (by decide)
  have l2 := sect_len b 2 hb (by decide)
  have s0 := spl_pre [] a b 0 rfl
  have s1 := spl_pre (sect b 0) a b 1 l0
  have s2 := spl_pre (sect b 0 ++ sect b 1) a b 2 (by rw [List.length_append, l0, l1])
  have s3 := spl_pre (sect b 0 ++ sect b 1 ++ sect b 2) a b 3 (by rw [List.length_append, List.length_append, l0, l1, l2])
  simp only [List.nil_append, Nat.zero_mul, List.drop_zero, Nat.zero_add] at s0
  rw [s0]
  rw [s1]
  rw [s2]
  rw [s3, List.drop_of_length_le (by omega), List.append_nil]
  exact sect_whole b hb
theorem crash1_none (x : Nat × List UInt8) (l : List (List UInt8)) (f : Nat → Bool) (hf : ∀ t, f t = false) (m : Nat) : crash1 f x m l = l := by
  induction m with
  | zero => rfl
  | succ m ih => rw [crash1_step, hf, if_neg (by decide), ih]
theorem crash1_full (x : Nat × List UInt8) (l : List (List UInt8)) (n : Nat) (h : All64 n l) (hx : x.2.length = 64) (hn : x.1 < n) (f : Nat → Bool) (hf : ∀ t, f t = true) : crash1 f x 4 l = l.set x.1 x.2 := by
  have hl : x.1 < l.length := by rw [h.1]; exact hn
  have hc : ∀ (a : List UInt8) t, cutIn x (l.set x.1 a) t = l.set x.1 (spl a x.2 t) := fun a t => by
    unfold cutIn
    rw [List.set_set, List.getD_eq_getElem?_getD, List.getElem?_set_self hl]
    rfl
  have h0 : (l.getD x.1 []).length = 64 := by
    rw [List.getD_eq_getElem?_getD, List.getElem?_eq_getElem hl]
    exact h.2 _ (List.getElem_mem hl)
  have c0 : crash1 f x 0 l = l := rfl
  rw [crash1_step, hf, if_pos rfl, crash1_step, hf, if_pos rfl, crash1_step, hf, if_pos rfl, crash1_step, hf, if_pos rfl, c0]
  rw [show cutIn x l 0 = l.set x.1 (spl (l.getD x.1 []) x.2 0) from rfl, hc, hc, hc, spl_four _ _ h0 hx]

/-- The disk of these fills. -/
def ordD (fs : List UInt8) : Dsk := ⟨List.replicate 3 zero64, fs.map fun f => (1, round64 [f]), fs.length, -1, 3, #[]⟩
theorem ordD_step (fs : List UInt8) (f : UInt8) : (ordD fs).wrote 1 (round64 [f]) = ordD (fs ++ [f]) := by
  unfold ordD Dsk.wrote Dsk.stepped
  rw [List.map_append, List.length_append]
  rfl
theorem ordD_zero : freshD 3 = ordD [] := rfl
/-- Which fill counts behind a crash; and the last one. -/
def wantF (fs : List UInt8) (keep : List Bool) : Nat → UInt8
  | 0 => 0
  | j + 1 => if keep.getD j false = true then fs.getD j 0 else wantF fs keep j
def lastF (fs : List UInt8) : Nat → UInt8
  | 0 => 0
  | j + 1 => fs.getD j 0
theorem zero_round : round64 [0] = zero64 := by decide
theorem ord_crash (fs : List UInt8) (keep : List Bool) (torn sectors : Int) (ht : torn < 0) (cap : Nat) (pad : Array Value) :
    ((ordD fs).crashed (crashF keep torn sectors) cap pad).read 1 = round64 [wantF fs keep fs.length] := by
  have hq : (ordD fs).queue.length = fs.length := by simp [ordD]
  have h64 : All64 3 (ordD fs).sure := ⟨by simp [ordD], fun x hx => by
    have : x = zero64 := by
      simp [ordD] at hx; exact hx
    rw [this]; unfold zero64; rw [List.length_replicate]⟩
  have hqs : ∀ x ∈ (ordD fs).queue, x.2.length = 64 ∧ x.1 < 3 := fun x hx => by
    simp only [ordD, List.mem_map] at hx
    obtain ⟨f, _, rfl⟩ := hx
    exact ⟨round64_len _, Nat.le_of_ble_eq_true rfl⟩
  have key : ∀ m, m ≤ fs.length → (crashN (crashF keep torn sectors) (ordD fs).queue m (ordD fs).sure)[1]? = some (round64 [wantF fs keep m]) := by
    intro m
    induction m with
    | zero => intro _; rw [show wantF fs keep 0 = 0 from rfl, zero_round]; rfl
    | succ m ih =>
      intro hm
      have hx : (ordD fs).queue[m]? = some (1, round64 [fs[m]]) := by simp [ordD, List.getElem?_map]; exact ⟨fs[m], by simp, rfl⟩
      rw [crashN_step _ _ _ _ _ hx]
      have hn := crashN_64 (f := crashF keep torn sectors) h64 hqs m (by rw [hq]; omega)
      have hno : ((m : Int) == torn) = false := by simp; omega
      by_cases hk : keep.getD m false = true
      · rw [crash1_full _ _ 3 hn (round64_len _) (Nat.le_of_ble_eq_true rfl) _ (fun t => by unfold crashF; rw [hk]; rfl)]
        rw [List.getElem?_set_self (by rw [hn.1]; exact Nat.le_of_ble_eq_true rfl)]
        show some (round64 [fs[m]]) = some (round64 [if keep.getD m false = true then fs.getD m 0 else wantF fs keep m])
        rw [if_pos hk, List.getD_eq_getElem?_getD, List.getElem?_eq_getElem (by omega)]; rfl
      · rw [crash1_none _ _ _ (fun t => by unfold crashF; rw [hno, Bool.eq_false_iff.2 hk]; rfl), ih (by omega)]
        show _ = some (round64 [if keep.getD m false = true then fs.getD m 0 else wantF fs keep m])
        rw [if_neg hk]
  have := key fs.length (Nat.le_refl _)
  show (crashN (crashF keep torn sectors) (ordD fs).queue (ordD fs).queue.length (ordD fs).sure).getD 1 [] = _
  rw [hq, List.getD_eq_getElem?_getD, this]; rfl
theorem ord_barred (fs : List UInt8) : (putQ (ordD fs).queue (ordD fs).sure)[1]? = some (round64 [lastF fs fs.length]) := by
  have key : ∀ m, m ≤ fs.length → (putQ ((ordD fs).queue.take m) (ordD fs).sure)[1]? = some (round64 [lastF fs m]) := by
    intro m
    induction m with
    | zero => intro _; rw [show lastF fs 0 = 0 from rfl, zero_round]; rfl
    | succ m ih =>
      intro hm
      have hx : (ordD fs).queue[m]? = some (1, round64 [fs[m]]) := by simp [ordD, List.getElem?_map]; exact ⟨fs[m], by simp, rfl⟩
      rw [putQ_step _ _ _ _ hx, List.getElem?_set_self (by rw [putQ_len]; exact Nat.le_of_ble_eq_true rfl)]
      show some (round64 [fs[m]]) = some (round64 [fs.getD m 0])
      rw [List.getD_eq_getElem?_getD, List.getElem?_eq_getElem (by omega)]; rfl
  have := key fs.length (Nat.le_refl _)
  rwa [List.take_of_length_le (by simp [ordD])] at this
theorem ord_again (fs : List UInt8) (keep : List Bool) (torn sectors : Int) (cap : Nat) (pad : Array Value) : ((ordD fs).barred.crashed (crashF keep torn sectors) cap pad).read 1 = round64 [lastF fs fs.length] := by
  show (putQ (ordD fs).queue (ordD fs).sure).getD 1 [] = _
  rw [List.getD_eq_getElem?_getD, ord_barred]; rfl
end Go.Proofs.YtlobkefacnedeaaDoor

/- The reference's disk in memory; step, Arm. -/
namespace Go.Proofs.YtlobkefacnedeaaDoor
open Go.RowKit
set_option maxRecDepth 100000

/-- Blocks as texts; writes as their numbers and texts. -/
def strC (l : List (List UInt8)) : List Value := l.map fun b => .string (txt b)
def wsC (q : List (Nat × List UInt8)) : List Value := q.flatMap fun x => [.int .i64 (x.1 : Int), .string (txt x.2)]
def refV (As : Option Addr) (cs : Nat) (Aq : Option Addr) (cq : Nat) (D : Dsk) : Array Value := #[.slice As D.sure.length cs, .slice Aq D.queue.length cq, .int .i64 (D.steps : Int), .int .i64 D.left]
theorem ob (A : Option Addr) (n c : Nat) : (Value.slice A n c).ownBlock = (Value.slice A 0 0).ownBlock := by cases A <;> rfl
/-- The reference's disk: its texts and its writes lie in rows above base. -/
structure RefM (w : World) (base : Nat) (As : Option Addr) (cs : Nat) (Aq : Option Addr) (cq : Nat) (D : Dsk) : Prop where
  s : w.ownsRow base 9 1 (.slice As D.sure.length cs) D.sure.length (strC D.sure)
  q : w.ownsRow base 110 2 (.slice Aq D.queue.length cq) D.queue.length (wsC D.queue)
  ok : D.Ok
theorem own_kp {w w' : World} {base n k : Nat} {e : TypeId} {v : Value} {xs : List Value} (h : w.ownsRow base e k v n xs) {gs : List Nat} (hk : Kp gs w w') (hv : ∀ g, v.ownBlock = some g → g ∉ gs) : w'.ownsRow base e k v n xs := by
  refine ⟨h.1, ?_⟩
  rcases h.2 with h0 | ⟨g, cap, cur, rfl, h2, h3, h4⟩
  · exact .inl h0
  · exact .inr ⟨g, cap, cur, rfl, h2, Blk.kp h3 hk (hv g rfl), h4⟩
section
variable {w w' : World} {base cs cq : Nat} {As Aq : Option Addr} {D : Dsk}
theorem RefM.kp (h : RefM w base As cs Aq cq D) {gs : List Nat} (hk : Kp gs w w') (hs : ∀ g, (Value.slice As 0 0).ownBlock = some g → g ∉ gs) (hq : ∀ g, (Value.slice Aq 0 0).ownBlock = some g → g ∉ gs) : RefM w' base As cs Aq cq D :=
  ⟨own_kp h.s hk (fun g hg => hs g (by rw [← hg]; exact (ob _ _ _).symm)), own_kp h.q hk (fun g hg => hq g (by rw [← hg]; exact (ob _ _ _).symm)), h.ok⟩
theorem RefM.below (h : RefM w base As cs Aq cq D) (hb : Below w.heap.size w w') : RefM w' base As cs Aq cq D := h.kp (Kp.of_below (gs := []) hb) (by simp) (by simp)
theorem RefM.sLt (h : RefM w base As cs Aq cq D) : ∀ g, (Value.slice As 0 0).ownBlock = some g → base ≤ g ∧ g < w.heap.size := fun g hg => h.s.lt g (by rw [← hg]; exact ob _ _ _)
theorem RefM.qLt (h : RefM w base As cs Aq cq D) : ∀ g, (Value.slice Aq 0 0).ownBlock = some g → base ≤ g ∧ g < w.heap.size := fun g hg => h.q.lt g (by rw [← hg]; exact ob _ _ _)
/-- Only the numbers turn. -/
theorem RefM.to {D' : Dsk} (h : RefM w base As cs Aq cq D) (e1 : D'.sure = D.sure) (e2 : D'.queue = D.queue) (ok : D'.Ok) : RefM w base As cs Aq cq D' := by
  refine ⟨?_, ?_, ok⟩
  · rw [e1]; exact h.s
  · rw [e2]; exact h.q
end
theorem Dsk.Ok.stepped {D : Dsk} (h : D.Ok) (hs : D.steps < 1000000) : D.stepped.Ok :=
  { h with l := by have := h.l; show -1 ≤ max (D.left - 1) (-1) ∧ max (D.left - 1) (-1) ≤ 9223372036854775807; omega, s := by show D.steps + 1 ≤ 1000000; omega }

theorem rstep_dead (As : Option Addr) (cs : Nat) (Aq : Option Addr) (cq : Nat) (D : Dsk) (w : World) (hl : D.left = 0) :
    Calls Tryd.prog 81 #[.agg (refV As cs Aq cq D)] w fun e w' => e = .returned (.tuple #[.agg (refV As cs Aq cq D), .bool false]) ∧ Below w.heap.size w w' := by
  unfold refV
  rw [hl]
  go_enter Tryd.func81, Tryd.ntmps81
  go_wp2_with fail
  exact bodyPost_ret (v := .tuple #[.agg _, _]) (by simp [results, Tryd.results81, go_sem]) rfl ⟨rfl, ((Below.refl _ _).alloc (Nat.le_refl _) _).alloc (by simp) _⟩
theorem rstep_ok (As : Option Addr) (cs : Nat) (Aq : Option Addr) (cq : Nat) (D : Dsk) (w : World) (hl : D.left ≠ 0) (ok : D.Ok) (hs : D.steps < 1000000) :
    Calls Tryd.prog 81 #[.agg (refV As cs Aq cq D)] w fun e w' => e = .returned (.tuple #[.agg (refV As cs Aq cq D.stepped), .bool true]) ∧ Below w.heap.size w w' := by
  unfold refV Dsk.stepped
  obtain ⟨l1, l2⟩ := ok.l
  have hl' : (D.left == 0) = false := by simpa using hl
  generalize D.left = lf at *
  clear hl ok
  by_cases h0 : 0 < lf
  · have em : Hid (max (lf - 1) (-1) = lf - 1) := hide (by omega)
    go_enter Tryd.func81, Tryd.ntmps81
    go_wp2_with fail
    exact bodyPost_ret (v := .tuple #[.agg #[.slice As D.sure.length cs, .slice Aq D.queue.length cq, .int .i64 ((D.steps : Int) + 1), .int .i64 (lf - 1)], .bool true]) (by simp [results, Tryd.results81, go_sem]) rfl ⟨by rw [em.out]; first | done | rfl, ((Below.refl _ _).alloc (Nat.le_refl _) _).alloc (by simp) _⟩
  · have em : Hid (max (lf - 1) (-1) = lf) := hide (by
      have : lf ≠ 0 := by simpa using hl'
      omega)
    go_enter Tryd.func81, Tryd.ntmps81
    go_wp2_with fail
    exact bodyPost_ret (v := .tuple #[.agg #[.slice As D.sure.length cs, .slice Aq D.queue.length cq, .int .i64 ((D.steps : Int) + 1), .int .i64 lf], .bool true]) (by simp [results, Tryd.results81, go_sem]) rfl ⟨by rw [em.out]; first | done | rfl, ((Below.refl _ _).alloc (Nat.le_refl _) _).alloc (by simp) _⟩
end Go.Proofs.YtlobkefacnedeaaDoor

/- The walks over marllaw15.texts, ref; marlref01.Texts, marlref15.Same; marllaw15.few. -/
namespace Go.Proofs.YtlobkefacnedeaaDoor
open Go.RowKit
set_option maxRecDepth 100000
attribute [local go_sem ↓] Go.wp_at_zero Go.wp_at_succ

theorem etyStr : Ety Tryd.prog 43 9 (.string ⟨#[]⟩) 16 := Ety.mk' Tryd.underlying43 (by kernel_rfl) rfl (by omega)
theorem strC_len (l : List (List UInt8)) : (strC l).length = l.length := by simp [strC]
theorem strC_snoc (l : List (List UInt8)) (b : List UInt8) : strC (l ++ [b]) = strC l ++ [.string (txt b)] := by simp [strC]
theorem strC_get (l : List (List UInt8)) (j : Nat) : (strC l)[j]? = l[j]?.map fun b => Value.string (txt b) := by simp [strC]
/-- A slice of slices of bytes that reads so. -/
def TxS (w : World) (A : Option Addr) (m : Nat) (bs : List (List UInt8)) : Prop :=
  ∃ cs : List Value, bs.length = m ∧ Sl w w.heap.size A m cs ∧ ∀ (j : Nat) (x : Value) (b : List UInt8), cs[j]? = some x → bs[j]? = some b → ∃ B n c, x = .slice B n c ∧ By w w.heap.size B n b
theorem TxS.below {w w' : World} {A : Option Addr} {m : Nat} {bs : List (List UInt8)} (h : TxS w A m bs) (hb : Below w.heap.size w w') : TxS w' A m bs := by
  obtain ⟨cs, h1, h2, h3⟩ := h
  refine ⟨cs, h1, (h2.below hb).more hb.size, fun j x b hx hj => ?_⟩
  obtain ⟨B, n, c, e, h4⟩ := h3 j x b hx hj
  exact ⟨B, n, c, e, (Sl.below h4 hb).more hb.size⟩
theorem TxS.at {w : World} {A : Option Addr} {m j : Nat} {bs : List (List UInt8)} (h : TxS w A m bs) (hj : j < m) : ∃ ad b B n c, A = some ad ∧ bs[j]? = some b ∧ w.cell? (ad.add j) = some (.slice B n c) ∧ By w w.heap.size B n b := by
  obtain ⟨cs, h1, h2, h3⟩ := h
  obtain ⟨ad, u, hA, -, hu, hc⟩ := h2.get hj
  have hb : bs[j]? = some (bs[j]'(by omega)) := List.getElem?_eq_getElem _
  obtain ⟨B, n, c, rfl, h4⟩ := h3 j u _ hu hb
  exact ⟨ad, _, B, n, c, hA, hb, hc, h4⟩
theorem TxS.len {w : World} {A : Option Addr} {m : Nat} {bs : List (List UInt8)} (h : TxS w A m bs) : bs.length = m := by
  obtain ⟨cs, h1, -⟩ := h
  exact h1
theorem BsAt.txs {base m : Nat} {w : World} {A : Option Addr} {bs : List (List UInt8)} (h : BsAt base w A m bs) : TxS w A m bs := by
  obtain ⟨cs, e1, e2, hr, hb⟩ := h
  refine ⟨cs, e2, RwAt.sl hr, fun j x b hx hj => ?_⟩
  obtain ⟨B, c, e, -, hB⟩ := hb j x b hx hj
  exact ⟨B, _, c, e, RwAt.sl hB⟩
theorem RowT.txs {t : TypeId} {base c : Nat} {w : World} {A : Option Addr} {gs : List Nat} {bs : List (List UInt8)} (h : RowT t base w A c gs bs) : TxS w A bs.length bs := by
  refine ⟨gs.map gV, rfl, Sl.of_own h.own, fun j x b hx hj => ?_⟩
  rw [List.getElem?_map] at hx
  obtain ⟨g, hg, rfl⟩ := Option.map_eq_some_iff.1 hx
  obtain ⟨h1, h2, h3⟩ := h.at_ j g b hg hj
  exact ⟨some ⟨g, 0, none⟩, 64, 64, rfl, by_blk h3 h2⟩
/-- A row of texts of the call's own. -/
abbrev OwnS (w : World) (base : Nat) (A : Option Addr) (m c : Nat) (bs : List (List UInt8)) : Prop := w.ownsRow base 9 1 (.slice A m c) m (strC bs)
set_option maxHeartbeats 2000000 in
theorem texts15 (w : World) (A : Option Addr) (m c : Nat) (bs : List (List UInt8)) (h : TxS w A m bs) (hm : m ≤ 100000) :
    Calls Tryd.prog 17 #[.slice A m c] w fun r w' => ∃ A' c', r = .returned (.slice A' m c') ∧ OwnS w' w.heap.size A' m c' bs ∧ Below w.heap.size w w' := by
  have H := hide h
  have HL := hide h.len
  clear h
  go_enter Tryd.func17, Tryd.ntmps17
  go_wp2_with fail
  go_loopw [3, 8] (fun x y wr => ∃ (j : Nat) (A' : Option Addr) (c' : Nat), j ≤ m ∧ x = .slice A' j c' ∧ y = .int .i64 (j : Int) ∧ OwnS wr w.heap.size A' j c' (bs.take j) ∧ Below w.heap.size w wr) (fun _ y _ => m - (intOf y).toNat)
  case atStart => exact ⟨0, none, 0, Nat.zero_le _, rfl, rfl, World.ownsRow_nil _ _ _ _, Below.refl _ _⟩
  case round =>
    obtain ⟨j, A', c', hj, rfl, rfl, ho, hb⟩ := hrel
    have O := hide ho
    have BW := hide hb
    clear ho hb
    by_cases hlt : j < m
    · have hjs : (j : Int) < (m : Int) := by omega
      obtain ⟨ad, b, B, n, cB, rfl, hbj, hc, hB⟩ := (H.out.below BW.out).at hlt
      have hcv := run_conv_txt (P := Tryd.prog) wr Tryd.underlying26 Tryd.underlying5 Tryd.underlying9 cB hB
      have HT := hide (show bs.take (j + 1) = bs.take j ++ [b] by rw [List.take_add_one, hbj]; rfl)
      clear hbj hB
      go_wp2_with (
        at_builtin
        refine wpList_app _ rfl (.tmp 12) (.tmp 15) _ rfl etyStr w.heap.size (.slice A' j c') j _ rfl (own_bel O.out ((Below.refl _ _).alloc (Nat.le_refl _) (.cells #[.string (txt b)] 9))) (wr.heap.size + 1) (some ⟨wr.heap.size, 0, none⟩) 1 1 [.string (txt b)] rfl (sl_newS wr [.string (txt b)] 9) (by intro u hu; rw [List.mem_singleton] at hu; rw [hu]; rfl) (by omega) (Nat.le_trans BW.out.size (by simp)) ?_
        intro A3 c3 w3 ho hg ha
        have O3 := hide ho
        have ba := (Below.refl wr.heap.size wr).alloc (Nat.le_refl _) (.cells #[.string (txt b)] 9)
        have B3 := hide ((BW.out.trans (ba.mono BW.out.size)).grown hg (Nat.le_trans BW.out.size ba.size) (fun g hg => (O.out.lt g hg).1))
        clear ho hg ha ba)
      go_roundw
      case rel => exact ⟨j + 1, A3, c3, by omega, rfl, by go_num, by rw [OwnS, HT.out, strC_snoc]; exact O3.out, B3.out⟩
      case measure => simp [intOf]; omega
    · have hjs : ¬ (j : Int) < (m : Int) := by omega
      obtain rfl : j = m := by omega
      go_wp2_with fail
      go_ret
      refine ⟨A', c', rfl, ?_, BW.out⟩
      have := O.out
      rw [List.take_of_length_le (by rw [HL.out]; exact Nat.le_refl _)] at this
      exact this
theorem results_cell1 {P : Program} {fn : Func} {p : Tmp} {ty : TypeId} (h : fn.results = #[.cell p ty]) (tmps : Array Value) (w : World) (g : Nat) (t : TypeId) (cs : Array Value) (fr : Nat × Nat) (d : TypeDesc)
    (hp : tmps.getD p undef = .pointer (some ⟨g, 0, none⟩)) (hg : w.heap[g]? = some (.cells cs t fr))
    (hu : P.underlying ty = some d) (hd : (match d with | .struct _ | .array _ _ => true | _ => false) = true) (hi : (P.info? ty).map (·.size) = some cs.size) :
    (results fn tmps).run P w = .ok (.agg cs) w := by
  have hp' : tmps[p]?.getD undef = .pointer (some ⟨g, 0, none⟩) := by simpa using hp
  simp [results, h, hp', asAddr, run_loadVar_row w g t ty cs fr d hg hu hd hi]
theorem ret_rf {K : Ending → World → Prop} {tmps : Array Value} {w : World} {g : Nat} {cs : Array Value} (hp : tmps.getD 2 undef = .pointer (some ⟨g, 0, none⟩)) (hB : Blk w g 45 cs) (hs : cs.size = 9)
    (hK : K (.returned (.agg cs)) w) : bodyPost Tryd.prog Tryd.f16 K .ret ⟨tmps, []⟩ w :=
  bodyPost_ret (results_cell1 (g := g) (cs := cs) (t := 45) (fr := (0, 0)) rfl _ _ (hp := hp) (hg := hB) (hu := Tryd.underlying45) (hd := rfl) (hi := by rw [hs]; kernel_rfl)) rfl hK
set_option maxHeartbeats 4000000 in
theorem ref15 (w : World) (a : Int) (v : PV) (B1 B2 A : Option Addr) (d1 d2 m c : Nat) (bs : List (List UInt8)) (h : TxS w A m bs) (hm : m ≤ 100000) :
    Calls Tryd.prog 16 #[.agg (fdC a v B1 d1 B2 d2 A m c)] w fun r w' => ∃ A' c', r = .returned (.agg (fdC a v B1 d1 B2 d2 A' m c')) ∧ OwnS w' w.heap.size A' m c' bs ∧ Below w.heap.size w w' := by
  have H := hide h
  have HL := hide h.len
  clear h
  unfold fdC
  go_enter Tryd.func16, Tryd.ntmps16
  go_upto_region 2 with fail
  obtain ⟨w1, hw⟩ : ∃ W, W = ((w.alloc (.cells #[.int .i64 a, .int .i64 v.e, .int .i64 v.c, .int .i64 v.i, .int .i64 v.p, .int .i64 v.x, .slice B1 v.fs.length d1, .slice B2 v.is.length d2, .slice A m c] 39)).alloc (.cells zeroC 45)).alloc (.cells #[.int .i64 a, .int .i64 v.e, .int .i64 v.c, .int .i64 v.i, .int .i64 v.p, .int .i64 v.x, .slice B1 v.fs.length d1, .slice B2 v.is.length d2, .slice none 0 0] 45) := ⟨_, rfl⟩
  have X1 : Hid (Blk w1 w.heap.size 39 #[.int .i64 a, .int .i64 v.e, .int .i64 v.c, .int .i64 v.i, .int .i64 v.p, .int .i64 v.x, .slice B1 v.fs.length d1, .slice B2 v.is.length d2, .slice A m c]) := hide (by rw [hw]; exact ((Blk.new _ _ _).alloc _).alloc _)
  have X2 : Hid (Blk w1 (w.heap.size + 1) 45 zeroC) := hide (by
    rw [hw]
    have := (Blk.new (w.alloc (.cells #[.int .i64 a, .int .i64 v.e, .int .i64 v.c, .int .i64 v.i, .int .i64 v.p, .int .i64 v.x, .slice B1 v.fs.length d1, .slice B2 v.is.length d2, .slice A m c] 39)) 45 zeroC).alloc (.cells #[.int .i64 a, .int .i64 v.e, .int .i64 v.c, .int .i64 v.i, .int .i64 v.p, .int .i64 v.x, .slice B1 v.fs.length d1, .slice B2 v.is.length d2, .slice none 0 0] 45)
    simpa using this)
  have X3 : Hid (Blk w1 (w.heap.size + 1 + 1) 45 #[.int .i64 a, .int .i64 v.e, .int .i64 v.c, .int .i64 v.i, .int .i64 v.p, .int .i64 v.x, .slice B1 v.fs.length d1, .slice B2 v.is.length d2, .slice none 0 0]) := hide (by
    rw [hw]
    have := Blk.new ((w.alloc (.cells #[.int .i64 a, .int .i64 v.e, .int .i64 v.c, .int .i64 v.i, .int .i64 v.p, .int .i64 v.x, .slice B1 v.fs.length d1, .slice B2 v.is.length d2, .slice A m c] 39)).alloc (.cells zeroC 45)) 45 #[.int .i64 a, .int .i64 v.e, .int .i64 v.c, .int .i64 v.i, .int .i64 v.p, .int .i64 v.x, .slice B1 v.fs.length d1, .slice B2 v.is.length d2, .slice none 0 0]
    simpa using this)
  have BW : Hid (Below w.heap.size w w1) := hide (by rw [hw]; exact (((Below.refl _ _).alloc (Nat.le_refl _) _).alloc (by simp) _).alloc (by simp; omega) _)
  have hw' := hw
  unfold zeroC fdC pv0 at hw'
  simp only [List.length_nil] at hw'
  rw [← hw']
  obtain ⟨g1, hg1⟩ : ∃ g, g = w.heap.size := ⟨_, rfl⟩
  rw [← hg1] at X1 X2 X3 ⊢
  obtain ⟨g2, hg2⟩ : ∃ g, g = g1 + 1 := ⟨_, rfl⟩
  rw [← hg2] at X2 X3 ⊢
  obtain ⟨g3, hg3⟩ : ∃ g, g = g2 + 1 := ⟨_, rfl⟩
  rw [← hg3] at X3 ⊢
  have G := hide (show w.heap.size ≤ g2 ∧ w.heap.size ≤ g3 ∧ g2 ≠ g3 by omega)
  clear hw hw' hg1 hg2 hg3
  have x8 := X1.out.cell 8
  simp only [List.getElem?_toArray, List.getElem?_cons_succ, List.getElem?_cons_zero] at x8
  go_wp2_with fail
  clear x8
  go_loopw [14] (fun y wr => ∃ (j : Nat) (A' : Option Addr) (c' : Nat), j ≤ m ∧ y = .int .i64 (j : Int) ∧ OwnS wr w.heap.size A' j c' (bs.take j) ∧ Blk wr g2 45 zeroC ∧ Blk wr g3 45 #[.int .i64 a, .int .i64 v.e, .int .i64 v.c, .int .i64 v.i, .int .i64 v.p, .int .i64 v.x, .slice B1 v.fs.length d1, .slice B2 v.is.length d2, .slice A' j c'] ∧ Below w.heap.size w wr) (fun y _ => m - (intOf y).toNat)
  case atStart => exact ⟨0, none, 0, Nat.zero_le _, rfl, World.ownsRow_nil _ _ _ _, X2.out, X3.out, BW.out⟩
  case round =>
    obtain ⟨j, A', c', hj, rfl, ho, hx2, hx3, hb⟩ := hrel
    have O := hide ho
    replace X2 := hide hx2
    replace X3 := hide hx3
    replace BW := hide hb
    clear ho hb hx2 hx3 X1
    by_cases hlt : j < m
    · have hjs : (j : Int) < (m : Int) := by omega
      obtain ⟨ad, b, B, n, cB, rfl, hbj, hc, hB⟩ := (H.out.below BW.out).at hlt
      have hcv := run_conv_txt (P := Tryd.prog) wr Tryd.underlying26 Tryd.underlying5 Tryd.underlying9 cB hB
      have HT := hide (show bs.take (j + 1) = bs.take j ++ [b] by rw [List.take_add_one, hbj]; rfl)
      clear hbj hB
      have y8 := X3.out.cell 8
      simp only [List.getElem?_toArray, List.getElem?_cons_succ, List.getElem?_cons_zero] at y8
      go_wp2_with (
        at_builtin
        refine wpList_app _ rfl (.tmp 19) (.tmp 22) _ rfl etyStr w.heap.size (.slice A' j c') j _ rfl (own_bel O.out ((Below.refl _ _).alloc (Nat.le_refl _) (.cells #[.string (txt b)] 9))) (wr.heap.size + 1) (some ⟨wr.heap.size, 0, none⟩) 1 1 [.string (txt b)] rfl (sl_newS wr [.string (txt b)] 9) (by intro u hu; rw [List.mem_singleton] at hu; rw [hu]; rfl) (by omega) (Nat.le_trans BW.out.size (by simp)) ?_
        intro A3 c3 w3 ho hg ha
        have O3 := hide ho
        have ba := (Below.refl wr.heap.size wr).alloc (Nat.le_refl _) (.cells #[.string (txt b)] 9)
        have OO := own_bel O.out ba
        have B3 := hide ((BW.out.trans (ba.mono BW.out.size)).grown hg (Nat.le_trans BW.out.size ba.size) (fun g hg => (O.out.lt g hg).1))
        have X2' := hide (blk_grT (X2.out.below ba) OO (by decide) hg)
        have X3' := hide (blk_grT (X3.out.below ba) OO (by decide) hg)
        have z8 := X3'.out.frozen 8
        have y8' := X3'.out.cell 8
        simp only [List.getElem?_toArray, List.getElem?_cons_succ, List.getElem?_cons_zero] at y8'
        clear ho hg ha ba OO)
      clear y8 y8' z8
      go_roundw
      case rel =>
        have XF := X3'.out.set 8 (.slice A3 (j + 1) c3)
        simp only [List.setIfInBounds_toArray, List.set_cons_zero, List.set_cons_succ] at XF
        refine ⟨j + 1, A3, c3, by omega, by go_num, ?_, X2'.out.far G.out.2.2 _, XF, B3.out.setCell G.out.2.1 _⟩
        have h3 := own_ktR O3.out ((Kt.refl [45] w.heap.size w3).set (p := ⟨g3, 8, none⟩) (.inl ⟨G.out.2.1, fun t cs hB => by simp [(Blk.type hB X3'.out).1]⟩) (.slice A3 (j + 1) c3)) (by decide)
        rw [OwnS, HT.out, strC_snoc]
        exact h3
      case measure => simp [intOf]; omega
    · have hjs : ¬ (j : Int) < (m : Int) := by omega
      obtain rfl : j = m := by omega
      obtain ⟨y0, y1, y2, y3, y4, y5, y6, y7, y8⟩ := op9z X2.out
      have z := X2.out.frozen
      obtain ⟨x0, x1, x2, x3, x4, x5, x6, x7, x8⟩ := op9S X3.out
      go_wp2_with fail
      clear y0 y1 y2 y3 y4 y5 y6 y7 y8 z x0 x1 x2 x3 x4 x5 x6 x7 x8
      obtain ⟨S1, S2⟩ := set9 X2.out (.int .i64 a) (.int .i64 v.e) (.int .i64 v.c) (.int .i64 v.i) (.int .i64 v.p) (.int .i64 v.x) (.slice B1 v.fs.length d1) (.slice B2 v.is.length d2) (.slice A' j c')
      refine ret_rf (g := g2) rfl S1 rfl ⟨A', c', rfl, ?_, Below.kp2 BW.out S2 BW.out.size (by simpa using G.out.1)⟩
      have h3 := own_ktR O.out (kt_box S2 X2.out (base := w.heap.size) G.out.1) (by decide)
      rw [List.take_of_length_le (by rw [HL.out]; exact Nat.le_refl _)] at h3
      exact h3
theorem sl_str {w : World} {B n : Nat} {A : Option Addr} {l : List (List UInt8)} (h : Sl w B A n (strC l)) {j : Nat} (hj : j < n) : ∃ (ad : Addr) (b : List UInt8), A = some ad ∧ l[j]? = some b ∧ w.cell? (ad.add j) = some (.string (txt b)) := by
  obtain ⟨ad, u, hA, -, hu, hc⟩ := h.get hj
  have hl := h.len
  rw [strC_len] at hl
  have hx : l[j]? = some (l[j]'(by omega)) := List.getElem?_eq_getElem _
  refine ⟨ad, _, hA, hx, ?_⟩
  rw [strC_get, hx] at hu
  simp only [Option.map_some, Option.some.injEq] at hu
  rw [hc, ← hu]
set_option maxHeartbeats 2000000 in
theorem texts_any (w : World) (A A' : Option Addr) (n c n' c' B B' : Nat) (l l' : List (List UInt8)) (h : Sl w B A n (strC l)) (h' : Sl w B' A' n' (strC l')) (hB : B ≤ w.heap.size) (hB' : B' ≤ w.heap.size) (hn : n ≤ 100000) (hn' : n' ≤ 100000) :
    Calls Tryd.prog 44 #[.slice A n c, .slice A' n' c'] w fun e w' => e = .returned (.bool (decide (l = l'))) ∧ Below w.heap.size w w' := by
  have H := hide h
  have H' := hide h'
  have HL := hide (show l.length = n ∧ l'.length = n' from ⟨by have := h.len; rwa [strC_len] at this, by have := h'.len; rwa [strC_len] at this⟩)
  clear h h'
  obtain ⟨R, hR⟩ : ∃ R, R = decide (l = l') := ⟨_, rfl⟩
  have HR := hide hR
  rw [← hR]
  clear hR
  go_enter Tryd.func44, Tryd.ntmps44
  by_cases hnn : n = n'
  rotate_left
  · have hne : ((n : Int) != (n' : Int)) = true := bne_iff_ne.2 (by omega)
    have HF := hide (show R = false by rw [HR.out]; exact decide_eq_false (fun e => hnn (by rw [← HL.out.1, ← HL.out.2, e])))
    clear hnn
    go_wp2_with fail
    go_ret
    rw [HF.out]
    exact ⟨rfl, Below.refl _ _⟩
  subst hnn
  go_wp2_with fail
  go_loopw [13] (fun x wr => ∃ j : Nat, j ≤ n ∧ x = .int .i64 (j : Int) ∧ l.take j = l'.take j ∧ Below w.heap.size w wr) (fun x _ => n - (intOf x).toNat)
  case atStart => exact ⟨0, Nat.zero_le _, rfl, rfl, Below.refl _ _⟩
  case round =>
    obtain ⟨j, hj, rfl, htk, hb⟩ := hrel
    have Hb := hide hb
    have HT := hide htk
    clear hb htk
    by_cases hlt : j < n
    · have hjs : (j : Int) < (n : Int) := by omega
      obtain ⟨ad, b, rfl, hx, hc⟩ := sl_str (H.out.below (Hb.out.mono hB)) hlt
      obtain ⟨ad', b', rfl, hx', hc'⟩ := sl_str (H'.out.below (Hb.out.mono hB')) hlt
      have HX := hide (And.intro hx hx')
      clear hx hx'
      by_cases hbb : b = b'
      · have ht : ((txt b).toList == (txt b').toList) = true := by rw [hbb]; exact txt_eq _
        have HBB := hide hbb
        clear hbb
        go_upto_region 6 with fail
        go_quiet (fail)
        go_wp2_with fail
        go_roundw
        case rel => exact ⟨j + 1, by omega, by go_num, take_snoc_eq HT.out HX.out.1 HX.out.2 HBB.out, bel_dN Hb.out nq⟩
        case measure => simp [intOf]; omega
      · have ht : ((txt b).toList == (txt b').toList) = false := txt_ne hbb
        have HF := hide (show R = false by rw [HR.out]; exact decide_eq_false (ne_at HX.out.1 HX.out.2 hbb))
        clear hbb
        go_upto_region 6 with fail
        go_quiet (fail)
        go_wp2_with fail
        go_ret
        rw [HF.out]
        exact ⟨rfl, bel_dN Hb.out nq⟩
    · have hjs : ¬ (j : Int) < (n : Int) := by omega
      have HF := hide (show R = true by
        rw [HR.out]
        refine decide_eq_true ?_
        have := HT.out
        rwa [List.take_of_length_le (by rw [HL.out.1]; omega), List.take_of_length_le (by rw [HL.out.2]; omega)] at this)
      go_wp2_with fail
      go_ret
      rw [HF.out]
      exact ⟨rfl, Hb.out⟩
/-- A found partial segment of the reference's, as cells; any heads of its lists. -/
def rfC (a : Int) (v : PV) (A1 : Option Addr) (n1 c1 : Nat) (A2 : Option Addr) (n2 c2 : Nat) (T : Option Addr) (m c : Nat) : Array Value := #[.int .i64 a, .int .i64 v.e, .int .i64 v.c, .int .i64 v.i, .int .i64 v.p, .int .i64 v.x, .slice A1 n1 c1, .slice A2 n2 c2, .slice T m c]
theorem fd_rf (a : Int) (v : PV) (B1 : Option Addr) (d1 : Nat) (B2 : Option Addr) (d2 : Nat) (A3 : Option Addr) (n3 c3 : Nat) : fdC a v B1 d1 B2 d2 A3 n3 c3 = rfC a v B1 v.fs.length d1 B2 v.is.length d2 A3 n3 c3 := rfl
set_option maxHeartbeats 4000000 in
theorem same15 (w : World) (a a' : Int) (v u : PV) (A1 A2 T1 B1 B2 T2 : Option Addr) (n1 c1 n2 c2 m1 k1 p1 d1 p2 d2 m2 k2 lo base lo' base' lo2 base2 lo2' base2' Q Q' : Nat) (l l' : List (List UInt8))
    (hf : FisAt lo base w A1 n1 v.fs) (hg : FisAt lo' base' w B1 p1 u.fs) (hi : IntsAt lo2 base2 w A2 n2 v.is) (hj : IntsAt lo2' base2' w B2 p2 u.is)
    (hn1 : n1 ≤ 1000000) (hp1 : p1 ≤ 1000000) (hn2 : n2 ≤ 1000000) (hp2 : p2 ≤ 1000000) (hfl : ∀ f ∈ v.fs, f.ls.length ≤ 1000000) (hgl : ∀ f ∈ u.fs, f.ls.length ≤ 1000000)
    (h : Sl w Q T1 m1 (strC l)) (h' : Sl w Q' T2 m2 (strC l')) (hQ : Q ≤ w.heap.size) (hQ' : Q' ≤ w.heap.size) (hm1 : m1 ≤ 100000) (hm2 : m2 ≤ 100000) :
    Calls Tryd.prog 15 #[.agg (rfC a v A1 n1 c1 A2 n2 c2 T1 m1 k1), .agg (rfC a' u B1 p1 d1 B2 p2 d2 T2 m2 k2)] w fun r w' => r = .returned (.bool (decide (a = a' ∧ v = u ∧ l = l'))) ∧ Below w.heap.size w w' := by
  obtain ⟨w1, hw⟩ : ∃ W, W = (w.alloc (.cells #[.int .i64 a, .int .i64 v.e, .int .i64 v.c, .int .i64 v.i, .int .i64 v.p, .int .i64 v.x, .slice A1 n1 c1, .slice A2 n2 c2, .slice T1 m1 k1] 45)).alloc (.cells #[.int .i64 a', .int .i64 u.e, .int .i64 u.c, .int .i64 u.i, .int .i64 u.p, .int .i64 u.x, .slice B1 p1 d1, .slice B2 p2 d2, .slice T2 m2 k2] 45) := ⟨_, rfl⟩
  have X2 : Hid (Blk w1 w.heap.size 45 #[.int .i64 a, .int .i64 v.e, .int .i64 v.c, .int .i64 v.i, .int .i64 v.p, .int .i64 v.x, .slice A1 n1 c1, .slice A2 n2 c2, .slice T1 m1 k1]) := hide (by rw [hw]; exact (Blk.new _ _ _).alloc _)
  have X3 : Hid (Blk w1 (w.heap.size + 1) 45 #[.int .i64 a', .int .i64 u.e, .int .i64 u.c, .int .i64 u.i, .int .i64 u.p, .int .i64 u.x, .slice B1 p1 d1, .slice B2 p2 d2, .slice T2 m2 k2]) := hide (by
    rw [hw]
    have := Blk.new (w.alloc (.cells #[.int .i64 a, .int .i64 v.e, .int .i64 v.c, .int .i64 v.i, .int .i64 v.p, .int .i64 v.x, .slice A1 n1 c1, .slice A2 n2 c2, .slice T1 m1 k1] 45)) 45 #[.int .i64 a', .int .i64 u.e, .int .i64 u.c, .int .i64 u.i, .int .i64 u.p, .int .i64 u.x, .slice B1 p1 d1, .slice B2 p2 d2, .slice T2 m2 k2]
    simpa using this)
  have ba : Below w.heap.size w w1 := by rw [hw]; exact ((Below.refl _ _).alloc (Nat.le_refl _) _).alloc (by simp) _
  have BW := hide ba
  have SM := hide (same_pv v u A1 A2 B1 B2 n1 c1 n2 c2 p1 d1 p2 d2 _ _ _ _ _ _ _ _ w1 (hf.below ba) (hg.below ba) (RwAt.below hi ba) (RwAt.below hj ba) hn1 hp1 hn2 hp2 hfl hgl)
  have H := hide ((h.below (ba.mono hQ)).more (Nat.le_trans hQ ba.size))
  have H' := hide ((h'.below (ba.mono hQ')).more (Nat.le_trans hQ' ba.size))
  unfold partC at SM
  obtain ⟨R, hR⟩ : ∃ R, R = decide (a = a' ∧ v = u ∧ l = l') := ⟨_, rfl⟩
  have HR := hide hR
  rw [← hR]
  clear hR hf hg hi hj hfl hgl h h' hQ hQ'
  unfold rfC
  go_enter Tryd.func15, Tryd.ntmps15
  go_upto_region 1 with fail
  rw [← hw]
  obtain ⟨g2, hg2⟩ : ∃ g, g = w.heap.size := ⟨_, rfl⟩
  rw [← hg2] at X2 X3 ⊢
  obtain ⟨g3, hg3⟩ : ∃ g, g = g2 + 1 := ⟨_, rfl⟩
  rw [← hg3] at X3 ⊢
  clear hw ba hg2 hg3
  obtain ⟨y0, y1, y2, y3, y4, y5, y6, y7, y8⟩ := op9S X2.out
  obtain ⟨x0, x1, x2, x3, x4, x5, x6, x7, x8⟩ := op9S X3.out
  by_cases ha : a = a'
  rotate_left
  · have hne : (a == a') = false := by simpa using ha
    have HF := hide (show R = false by rw [HR.out]; exact decide_eq_false (fun e => ha e.1))
    clear ha
    go_wp2_with fail
    go_ret
    rw [HF.out]
    exact ⟨rfl, BW.out⟩
  subst ha
  by_cases hv : v = u
  rotate_left
  · rw [decide_eq_false hv] at SM
    have HF := hide (show R = false by rw [HR.out]; exact decide_eq_false (fun e => hv e.2.1))
    clear hv
    go_wp2_with fail
    refine SM.out.mono ?_
    rintro r w2 ⟨rfl, hb⟩
    have B2 := hide (BW.out.trans (hb.mono BW.out.size))
    clear y0 y1 y2 y3 y4 y5 y6 y7 y8 x0 x1 x2 x3 x4 x5 x6 x7 x8 hb
    go_wp2_with fail
    go_ret
    rw [HF.out]
    exact ⟨rfl, B2.out⟩
  rw [decide_eq_true hv] at SM
  have HV := hide hv
  clear hv
  go_wp2_with fail
  refine SM.out.mono ?_
  rintro r w2 ⟨rfl, hb⟩
  have B2 := hide (BW.out.trans (hb.mono BW.out.size))
  have TX := hide (texts_any w2 T1 T2 m1 k1 m2 k2 _ _ l l' (H.out.below hb) (H'.out.below hb) hb.size hb.size hm1 hm2)
  have z8 := (X2.out.below hb).cell 8
  have u8 := (X3.out.below hb).cell 8
  simp only [List.getElem?_toArray, List.getElem?_cons_succ, List.getElem?_cons_zero] at z8 u8
  have e : R = decide (l = l') := by
    rw [HR.out]
    exact decide_eq_decide.2 ⟨fun h => h.2.2, fun h => ⟨trivial, HV.out, h⟩⟩
  rw [← e] at TX
  clear y0 y1 y2 y3 y4 y5 y6 y7 y8 x0 x1 x2 x3 x4 x5 x6 x7 x8 hb e
  go_wp2_with fail
  refine TX.out.mono ?_
  rintro r w3 ⟨rfl, hb⟩
  have B3 := hide (B2.out.trans (hb.mono B2.out.size))
  clear hb
  go_wp2_with fail
  go_ret
  exact ⟨rfl, B3.out⟩
end Go.Proofs.YtlobkefacnedeaaDoor

/- The walk of marllaw15.few. -/
namespace Go.Proofs.YtlobkefacnedeaaDoor
open Go.RowKit
set_option maxRecDepth 100000
attribute [local go_sem ↓] Go.wp_at_zero Go.wp_at_succ

def FewAns (n1 n2 m : Nat) (fs : List FI) (r : Ending) : Prop := ∃ b : Bool, r = .returned (.bool b) ∧ (b = true → n1 ≤ 40 ∧ n2 ≤ 120 ∧ m ≤ 200 ∧ n2 + lsN fs ≤ 120)
set_option maxHeartbeats 2000000 in
theorem few15 (w : World) (a : Int) (v : PV) (A1 A2 A3 : Option Addr) (n1 c1 n2 c2 m c3 lo base : Nat) (h : FisAt lo base w A1 n1 v.fs) (hn1 : n1 ≤ 9223372036854775807) (hn2 : n2 ≤ 9223372036854775807) (hm : m ≤ 9223372036854775807) (hl : ∀ f ∈ v.fs, f.ls.length ≤ 9223372036854775807) :
    Calls Tryd.prog 10 #[.agg (rfC a v A1 n1 c1 A2 n2 c2 A3 m c3)] w fun r w' => FewAns n1 n2 m v.fs r ∧ Below w.heap.size w w' := by
  have H := hide h
  have HL := hide h.len
  have HLS := hide hl
  clear h hl
  have K1 := hide (Blk.new w 28 (rfC a v A1 n1 c1 A2 n2 c2 A3 m c3))
  have B1 := hide ((Below.refl w.heap.size w).alloc (Nat.le_refl _) (.cells (rfC a v A1 n1 c1 A2 n2 c2 A3 m c3) 28))
  unfold rfC at *
  have z6 := K1.out.cell 6
  have z7 := K1.out.cell 7
  have z8 := K1.out.cell 8
  simp only [List.getElem?_toArray, List.getElem?_cons_succ, List.getElem?_cons_zero] at z6 z7 z8
  obtain ⟨fs, hfs⟩ : ∃ l, l = v.fs := ⟨_, rfl⟩
  rw [← hfs] at H HL HLS ⊢
  go_enter Tryd.func10, Tryd.ntmps10
  go_upto_region 1 with fail
  generalize w.alloc (.cells #[.int .i64 a, .int .i64 v.e, .int .i64 v.c, .int .i64 v.i, .int .i64 v.p, .int .i64 v.x, .slice A1 n1 c1, .slice A2 n2 c2, .slice A3 m c3] 28) = w1 at *
  clear hfs
  by_cases h0 : 40 < (n1 : Int)
  · go_wp2_with fail
    go_ret
    exact ⟨⟨_, rfl, fun h => by cases h⟩, B1.out⟩
  by_cases h1 : 120 < (n2 : Int)
  · go_wp2_with fail
    go_ret
    exact ⟨⟨_, rfl, fun h => by cases h⟩, B1.out⟩
  by_cases h2 : 200 < (m : Int)
  · go_wp2_with fail
    go_ret
    exact ⟨⟨_, rfl, fun h => by cases h⟩, B1.out⟩
  have hn40 : n1 ≤ 40 := by omega
  have hn150 : n2 ≤ 120 := by omega
  have hm200 : m ≤ 200 := by omega
  go_upto_region 3 with fail
  clear h0 h1 h2
  go_wp2_with fail
  clear z6 z7 z8
  go_loopw [3, 31] (fun y z wr => ∃ j : Nat, j ≤ n1 ∧ z = .int .i64 (j : Int) ∧ y = .int .i64 ((n2 + lsN (fs.take j) : Nat) : Int) ∧ n2 + lsN (fs.take j) ≤ 120 ∧ Below w1.heap.size w1 wr) (fun _ z _ => n1 - (intOf z).toNat)
  case atStart => exact ⟨0, Nat.zero_le _, rfl, by simp [lsN, sumN], by simp [lsN, sumN]; omega, Below.refl _ _⟩
  case round =>
    obtain ⟨j, hj, rfl, rfl, hle, hb⟩ := hrel
    have Hb := hide (B1.out.trans (hb.mono B1.out.size))
    have z6 := (K1.out.below hb).cell 6
    simp only [List.getElem?_toArray, List.getElem?_cons_succ, List.getElem?_cons_zero] at z6
    have HB := hide hb
    clear hb
    by_cases hlt : j < n1
    · obtain ⟨b, off, f, A3, c3, hA, hF, hf, hi, q0, q1, q2⟩ := (H.out.below Hb.out).at hlt
      subst hA
      have HF := hide hf
      have hm5 := HLS.out f (List.mem_of_getElem? hf)
      obtain ⟨m, hm⟩ : ∃ m, m = f.ls.length := ⟨_, rfl⟩
      rw [← hm] at q2 hm5
      have e1 := lsN_take hf
      rw [← hm] at e1
      obtain ⟨M, hM⟩ : ∃ M, M = n2 + lsN (fs.take j) := ⟨_, rfl⟩
      have HM := hide hM
      have E1 := hide (show n2 + lsN (fs.take (j + 1)) = M + m by omega)
      rw [← hM] at hle ⊢
      clear hf hi hF hm e1 hM
      have hjs : (j : Int) < (n1 : Int) := by omega
      have hj64 : IntKind.i64.wrap (j : Int) = (j : Int) := by rw [IntKind.wrap_i64]; omega
      have hs64 : IntKind.i64.wrap (120 - (M : Int)) = 120 - (M : Int) := by rw [IntKind.wrap_i64]; omega
      by_cases hg : 120 - (M : Int) < (m : Int)
      · go_wp2_with fail
        go_ret
        exact ⟨⟨_, rfl, fun h => by cases h⟩, Hb.out⟩
      · have ha64 : IntKind.i64.wrap ((M : Int) + (m : Int)) = (M : Int) + (m : Int) := by rw [IntKind.wrap_i64]; omega
        go_wp2_with fail
        go_roundw
        case rel => exact ⟨j + 1, by omega, by go_num, by rw [E1.out]; congr 1, by rw [E1.out]; omega, HB.out⟩
        case measure => simp [intOf]; omega
    · have hjn : j = n1 := by omega
      subst hjn
      have e := List.take_of_length_le (Nat.le_of_eq HL.out)
      rw [e] at hle
      have HLE := hide hle
      clear hle
      go_wp2_with fail
      go_ret
      exact ⟨⟨_, rfl, fun _ => ⟨hn40, hn150, hm200, HLE.out⟩⟩, Hb.out⟩
end Go.Proofs.YtlobkefacnedeaaDoor

/- What a good write says of its arguments. No program in sight. -/
namespace Go.Proofs.YtlobkefacnedeaaDoor
open Go.RowKit
set_option maxRecDepth 100000

/-- A write that is good: what its arguments were. -/
theorem wrS_zero {D : Dsk} {a : Int} {v : PV} {bs : List (List UInt8)} (h : (wrS D a v bs).1 = 0) : v.ck = 0 ∧ fitS D a v bs.length ∧ ∀ b ∈ bs, b.length = 64 := by
  unfold wrS at h
  split at h
  · rename_i h1; exact absurd h h1
  · rename_i h1
    split at h
    · cases h
    · rename_i h2
      split at h
      · cases h
      · rename_i h3
        refine ⟨by simpa using h1, by simpa using h2, fun b hb => ?_⟩
        rw [Bool.not_eq_true, List.any_eq_false] at h3
        have := h3 b hb
        simpa using this
theorem ck_x {v : PV} (h : v.ck = 0) : 0 ≤ v.x ∧ v.x ≤ 65535 := by
  obtain ⟨⟨⟨_, _, _, _, h⟩, _⟩, _⟩ := PV.gd h
  omega
/-- So it is read. -/
theorem wrS_read {D : Dsk} (hL : D.left < 0) (hq : ∀ x ∈ D.queue, x.1 < D.sure.length) {a : Nat} {v : PV} {bs : List (List UInt8)} (h : (wrS D (a : Int) v bs).1 = 0) : rdS (wrS D (a : Int) v bs).2 (a : Int) = (0, v, bs) := by
  obtain ⟨h1, h2, h3⟩ := wrS_zero h
  obtain ⟨x0, x1⟩ := ck_x h1
  have hv := PV.n_bd h1
  unfold fitS at h2
  obtain ⟨x, hx⟩ : ∃ x : Nat, v.x = (x : Int) := ⟨v.x.toNat, by omega⟩
  rw [hx] at h2
  obtain ⟨-, -, -, hr⟩ := wrS_ok hL hq (a := a) hx h1 (by omega) (by omega) (by omega) (by omega) h3
  refine rdS_wrS (D := D) (E := (wrS D (a : Int) v bs).2) h1 (by omega) (by rw [wrS_len]; omega) (by rw [hr, if_pos rfl]) (by rw [hr, if_neg (by omega), if_pos rfl]) (fun j hj => ?_)
  rw [hr, if_neg (by omega), if_neg (by omega), if_pos (by omega)]
  congr 1
  omega
/-- A write that is none leaves the disk as it was, if nothing hinders. -/
theorem wrS_bad {D : Dsk} (hL : D.left < 0) (hq : ∀ x ∈ D.queue, x.1 < D.sure.length) {a : Int} {v : PV} {bs : List (List UInt8)} (h : (wrS D a v bs).1 ≠ 0) : (wrS D a v bs).2 = D := by
  by_cases h1 : v.ck = 0
  · by_cases h2 : fitS D a v bs.length
    · by_cases h3 : bs.any (fun b => b.length ≠ 64)
      · unfold wrS
        rw [if_neg (by rw [h1]; decide), if_neg (fun h => h h2), if_pos h3]
      · exfalso
        apply h
        obtain ⟨x0, x1⟩ := ck_x h1
        have hv := PV.n_bd h1
        unfold fitS at h2
        obtain ⟨k, rfl⟩ : ∃ k : Nat, a = (k : Int) := ⟨a.toNat, by omega⟩
        obtain ⟨x, hx⟩ : ∃ x : Nat, v.x = (x : Int) := ⟨v.x.toNat, by omega⟩
        rw [hx] at h2
        refine (wrS_ok hL hq (a := k) hx h1 (by omega) (by omega) (by omega) (by omega) (fun b hb => ?_)).1
        rw [Bool.not_eq_true, List.any_eq_false] at h3
        have := h3 b hb
        simpa using this
    · unfold wrS
      rw [if_neg (by rw [h1]; decide), if_pos h2]
  · unfold wrS
    rw [if_pos h1]
end Go.Proofs.YtlobkefacnedeaaDoor

/- What a good write says of its arguments; rows of blocks that are written into. -/
namespace Go.Proofs.YtlobkefacnedeaaDoor
open Go.RowKit
set_option maxRecDepth 100000

theorem u8s_ints2 (l : List UInt8) : ∀ u ∈ u8s l, ∃ z, u = .int .u8 z := by
  intro u hu
  obtain ⟨x, -, rfl⟩ := List.mem_map.1 hu
  exact ⟨_, rfl⟩
/-- Blocks into which may be written. -/
structure BmR (t : TypeId) (base : Nat) (w : World) (A : Option Addr) (n c : Nat) (gs : List Nat) : Prop where
  own : w.ownsRow base 26 1 (.slice A n c) n (gs.map gV)
  blk : ∀ g ∈ gs, base ≤ g ∧ ∃ cur : Array Value, Blk w g t cur ∧ cur.size = 64 ∧ ∀ u ∈ cur.toList, ∃ z, u = .int .u8 z
theorem RowT.bm {t : TypeId} {base c : Nat} {w : World} {A : Option Addr} {gs : List Nat} {bs : List (List UInt8)} (h : RowT t base w A c gs bs) : BmR t base w A bs.length c gs :=
  ⟨h.own, fun g hg => by
    obtain ⟨j, hj, e⟩ := List.getElem_of_mem hg
    have hl := h.len
    obtain ⟨h1, h2, h3⟩ := h.at_ j g _ (by rw [List.getElem?_eq_getElem hj, e]) (List.getElem?_eq_getElem (show j < bs.length by omega))
    exact ⟨h1, _, h3, by simp [u8s_length, h2], fun u hu => u8s_ints2 _ u (by simpa using hu)⟩⟩
theorem BmR.at {t : TypeId} {base c n i k : Nat} {w : World} {A : Option Addr} {gs : List Nat} (h : BmR t base w A n c gs) (hi : i < n) (hk : k < 64) : ∃ b g z, A = some ⟨b, 0, none⟩ ∧ g ∈ gs ∧ w.cell? ⟨b, i, none⟩ = some (gV g) ∧ w.cell? ⟨g, k, none⟩ = some (.int .u8 z) ∧ w.frozen? ⟨g, k, none⟩ = false := by
  obtain ⟨b, u, hA, -, -, hu, hc, -, -⟩ := own_set1 h.own hi
  rw [List.getElem?_map] at hu
  obtain ⟨g, hg, rfl⟩ := Option.map_eq_some_iff.1 hu
  have hm := List.mem_of_getElem? hg
  obtain ⟨-, cur, hB, hs, hz⟩ := h.blk g hm
  obtain ⟨z, e⟩ := hz (cur[k]'(by omega)) (by simp)
  exact ⟨b, g, z, hA, hm, hc, by rw [hB.cell, Array.getElem?_eq_getElem (by omega), e], hB.frozen k⟩
theorem BmR.set {t : TypeId} {base c n g k : Nat} {w : World} {A : Option Addr} {gs : List Nat} (h : BmR t base w A n c gs) (ht : t ≠ 26) (hg : g ∈ gs) (z : Int) : BmR t base (w.setCell ⟨g, k, none⟩ (.int .u8 z)) A n c gs := by
  obtain ⟨h1, cur, hB, hs, hz⟩ := h.blk g hg
  have hK : Kt [t] base w (w.setCell ⟨g, k, none⟩ (.int .u8 z)) := (Kt.refl [t] base w).set (p := ⟨g, k, none⟩) (.inl ⟨h1, fun t' cs' hB' => by simp [(Blk.type hB' hB).1]⟩) _
  refine ⟨own_ktR h.own hK (by simpa using Ne.symm ht), fun g' hg' => ?_⟩
  by_cases e : g' = g
  · subst e
    refine ⟨h1, _, hB.set k (.int .u8 z), by simpa using hs, fun u hu => ?_⟩
    rw [Array.toList_setIfInBounds] at hu
    rcases List.mem_or_eq_of_mem_set hu with hu | hu
    · exact hz u hu
    · exact ⟨z, hu⟩
  · obtain ⟨k1, cur', k2, k3, k4⟩ := h.blk g' hg'
    exact ⟨k1, cur', k2.far e _, k3, k4⟩
theorem kp_set {gs : List Nat} {w w' : World} (h : Kp gs w w') {g k : Nat} (hg : g ∈ gs) (u : Value) : Kp gs w (w'.setCell ⟨g, k, none⟩ u) := h.set (p := ⟨g, k, none⟩) (.inl hg) u
end Go.Proofs.YtlobkefacnedeaaDoor

/- A piece as an argument. -/
namespace Go.Proofs.YtlobkefacnedeaaDoor
open Go.RowKit
set_option maxRecDepth 100000

/-- What is known of a piece that came in. -/
structure PcA (w : World) (cs : List Value) (a : Int) (v : PV) (A1 : Option Addr) (n1 c1 : Nat) (A2 : Option Addr) (n2 c2 : Nat) (A3 : Option Addr) (m c3 : Nat) (data : List UInt8) : Prop where
  e : cs = (rfC a v A1 n1 c1 A2 n2 c2 A3 m c3).toList
  a64 : I64 a
  f : FisAt 0 w.heap.size w A1 n1 v.fs
  i : IntsAt 0 w.heap.size w A2 n2 v.is
  d : By w w.heap.size A3 m data
  hc : m ≤ c3
  h1 : n1 ≤ 9223372036854775807
  h2 : n2 ≤ 9223372036854775807
  h3 : m ≤ 9223372036854775807
  hl : ∀ f ∈ v.fs, (∀ x ∈ f.ls, I64 x) ∧ f.ls.length ≤ 9223372036854775807
set_option maxRecDepth 100000 in
theorem piece_rd {w : World} {cs : List Value} {k : Nat} (h : Rd Tryd.prog w (k + 6) 28 cs) : ∃ a v A1 n1 c1 A2 n2 c2 A3 m c3 data, PcA w cs a v A1 n1 c1 A2 n2 c2 A3 m c3 data := by
  have hc : Tryd.prog.cellsOf 3 = 1 := by kernel_rfl
  have hc7 : Tryd.prog.cellsOf 25 = 7 := by kernel_rfl
  have hc9 : Tryd.prog.cellsOf 28 = 9 := by kernel_rfl
  have hcs1 : Tryd.prog.cellsOf 22 = 1 := by kernel_rfl
  have hcs2 : Tryd.prog.cellsOf 23 = 1 := by kernel_rfl
  have hcs3 : Tryd.prog.cellsOf 26 = 1 := by kernel_rfl
  have hl := rd_len (n := k + 5) Tryd.underlying28 h
  rw [hc9] at hl
  match cs, hl with
  | [b0, b1, b2, b3, b4, b5, b6, b7, b8], _ =>
    obtain ⟨a, rfl, hwa⟩ := rd_fld_int (n := k + 4) Tryd.underlying28 h 0 (u := 3) (o := 0) rfl hc Tryd.underlying3 rfl
    have hp := rd_field (n := k + 5) Tryd.underlying28 h 1 (u := 25) (o := 1) rfl hc7
    have hd := rd_field (n := k + 5) Tryd.underlying28 h 2 (u := 26) (o := 8) rfl hcs3
    have hp' : Rd Tryd.prog w (k + 5) 25 [b1, b2, b3, b4, b5, b6, b7] := by simpa using hp
    have hd' : Rd Tryd.prog w (k + 5) 26 [b8] := by simpa using hd
    obtain ⟨p1, rfl, _⟩ := rd_fld_int (n := k + 3) Tryd.underlying25 hp' 0 (u := 3) (o := 0) rfl hc Tryd.underlying3 rfl
    obtain ⟨p2, rfl, _⟩ := rd_fld_int (n := k + 3) Tryd.underlying25 hp' 1 (u := 3) (o := 1) rfl hc Tryd.underlying3 rfl
    obtain ⟨p3, rfl, _⟩ := rd_fld_int (n := k + 3) Tryd.underlying25 hp' 2 (u := 3) (o := 2) rfl hc Tryd.underlying3 rfl
    obtain ⟨p4, rfl, _⟩ := rd_fld_int (n := k + 3) Tryd.underlying25 hp' 3 (u := 3) (o := 3) rfl hc Tryd.underlying3 rfl
    obtain ⟨p5, rfl, _⟩ := rd_fld_int (n := k + 3) Tryd.underlying25 hp' 4 (u := 3) (o := 4) rfl hc Tryd.underlying3 rfl
    have h5 := rd_field (n := k + 4) Tryd.underlying25 hp' 5 (u := 22) (o := 5) rfl hcs1
    have h6 := rd_field (n := k + 4) Tryd.underlying25 hp' 6 (u := 23) (o := 6) rfl hcs2
    obtain ⟨A1, n1, k1, fs, rfl, q1, q2, hf, hb⟩ := fis_of_rdK (k0 := k) (v := b6) (by simpa using h5)
    obtain ⟨A2, n2, k2, is, rfl, q3, q4, hi, hbi⟩ := ints_of_rdA (m := k + 2) (v := b7) (by simpa using h6)
    obtain ⟨A3, m, k3, data, rfl, q5, q6, hby⟩ := by_of_rd (n := k + 3) Tryd.underlying26 Tryd.underlying5 (by kernel_rfl) hd'
    exact ⟨a, ⟨p1, p2, p3, p4, p5, fs, is⟩, A1, n1, k1, A2, n2, k2, A3, m, k3, data, ⟨rfl, wf_bd_i64 hwa, hf, hi, hby, q5, by omega, by omega, by omega, fun f hm => ⟨(hb f hm).2.2.1, (hb f hm).2.2.2⟩⟩⟩
end Go.Proofs.YtlobkefacnedeaaDoor

/- The walk of marllaw15.SegOwn. -/
namespace Go.Proofs.YtlobkefacnedeaaDoor
open Go.RowKit
set_option maxRecDepth 100000
attribute [local go_sem ↓] Go.wp_at_zero Go.wp_at_succ

theorem RwAt.bl {lo k n : Nat} {t : TypeId} {w w' : World} {A : Option Addr} {xs : List Value} (h : RwAt lo w.heap.size t k w A n xs) (hb : Below w.heap.size w w') : RwAt lo w.heap.size t k w' A n xs := RwAt.below h hb
theorem FisAt.bl {lo n : Nat} {w w' : World} {A : Option Addr} {fs : List FI} (h : FisAt lo w.heap.size w A n fs) (hb : Below w.heap.size w w') : FisAt lo w.heap.size w' A n fs := h.below hb
theorem And.intro8 {a0 a1 a2 a3 a4 a5 a6 a7 a8 b : Prop} (h : a0 ∧ a1 ∧ a2 ∧ a3 ∧ a4 ∧ a5 ∧ a6 ∧ a7 ∧ a8) (hb : b) : a0 ∧ a1 ∧ a2 ∧ a3 ∧ a4 ∧ a5 ∧ a6 ∧ a7 ∧ a8 ∧ b := ⟨h.1, h.2.1, h.2.2.1, h.2.2.2.1, h.2.2.2.2.1, h.2.2.2.2.2.1, h.2.2.2.2.2.2.1, h.2.2.2.2.2.2.2.1, h.2.2.2.2.2.2.2.2, hb⟩
set_option maxHeartbeats 8000000 in
theorem own15 (w : World) (a : Int) (v : PV) (A1 A2 A3 : Option Addr) (n1 c1 n2 c2 m c3 : Nat) (data : List UInt8) (sp : SpanAt w) (hf : FisAt 0 w.heap.size w A1 n1 v.fs) (hi : IntsAt 0 w.heap.size w A2 n2 v.is) (hd : By w w.heap.size A3 m data) (hmc : m ≤ c3)
    (hn1 : n1 ≤ 9223372036854775807) (hn2 : n2 ≤ 9223372036854775807) (hm : m ≤ 9223372036854775807) (hl : ∀ f ∈ v.fs, (∀ x ∈ f.ls, I64 x) ∧ f.ls.length ≤ 9223372036854775807) :
    Calls Tryd.prog 3 #[.agg (rfC a v A1 n1 c1 A2 n2 c2 A3 m c3)] w fun r w' => r = .returned (.bool true) ∧ Below w.heap.size w w' := by
  have SP := hide sp
  have HF := hide hf
  have HI := hide hi
  have HD := hide hd
  have HL := hide hl
  have HLN := hide (And.intro hf.len (IntsAt.len hi))
  clear sp hf hi hd hl
  unfold rfC
  go_enter Tryd.func3, Tryd.ntmps3
  go_upto_region 1 with fail
  obtain ⟨w1, hw⟩ : ∃ W, W = w.alloc (.cells #[.int .i64 a, .int .i64 v.e, .int .i64 v.c, .int .i64 v.i, .int .i64 v.p, .int .i64 v.x, .slice A1 n1 c1, .slice A2 n2 c2, .slice A3 m c3] 28) := ⟨_, rfl⟩
  have X1 : Hid (Blk w1 w.heap.size 28 #[.int .i64 a, .int .i64 v.e, .int .i64 v.c, .int .i64 v.i, .int .i64 v.p, .int .i64 v.x, .slice A1 n1 c1, .slice A2 n2 c2, .slice A3 m c3]) := hide (by rw [hw]; exact Blk.new _ _ _)
  have BW : Hid (Below w.heap.size w w1) := hide (by rw [hw]; exact (Below.refl _ _).alloc (Nat.le_refl _) _)
  rw [← hw]
  obtain ⟨g1, hg⟩ : ∃ g, g = w.heap.size := ⟨_, rfl⟩
  rw [← hg] at X1 ⊢
  clear hw hg
  go_wp2_with fail
  refine (awake15 w1 (SP.out.bel BW.out)).mono ?_
  rintro r w2 ⟨rfl, hb⟩
  replace X1 := hide (X1.out.below hb)
  replace BW := hide (BW.out.trans (hb.mono BW.out.size))
  clear hb
  have FC := hide (few15 w2 a v A1 A2 A3 n1 c1 n2 c2 m c3 _ _ (HF.out.below BW.out) hn1 hn2 hm (fun f hf => (HL.out f hf).2))
  unfold rfC at FC
  obtain ⟨x0, x1, x2, x3, x4, x5, x6, x7, x8⟩ := op9S X1.out
  go_wp2_with fail
  clear x0 x1 x2 x3 x4 x5 x6 x7 x8
  refine FC.out.mono ?_
  rintro r w3 ⟨⟨b, rfl, hfw⟩, hb⟩
  replace X1 := hide (X1.out.below hb)
  replace BW := hide (BW.out.trans (hb.mono BW.out.size))
  clear hb FC
  cases b with
  | false =>
    clear hfw
    go_wp2_with fail
    refine (awake15 w3 (SP.out.bel BW.out)).mono ?_
    rintro r w4 ⟨rfl, hb⟩
    have B4 := hide (BW.out.trans (hb.mono BW.out.size))
    clear hb
    go_wp2_with fail
    go_ret
    exact ⟨rfl, B4.out⟩
  | true =>
    obtain ⟨h40, h120, h200, hls⟩ := hfw rfl
    have hls2 : lsN v.fs ≤ 120 := by omega
    clear hfw hn1 hn2 hm
    replace HF := hide ((HF.out.below BW.out).base_ BW.out.size)
    replace HI := hide ((RwAt.below HI.out BW.out).base_ BW.out.size)
    replace HD := hide ((HD.out.below BW.out).more BW.out.size)
    replace SP := hide (SP.out.bel BW.out)
    go_wp2_with fail
    refine (ld_new w3 4096 (by decide) (by decide)).mono ?_
    rintro r w4 ⟨d, rfl, hld⟩
    have L := hide hld
    clear hld
    obtain ⟨nb, hnb⟩ : ∃ n, n = min v.n 200 - 2 := ⟨_, rfl⟩
    have HNB := hide (show nb = v.n - 2 ∧ nb ≤ 120 by
      have : v.n = 2 + n2 + lsN v.fs := by unfold PV.n; rw [HLN.out.2]
      have := IntsAt.len HI.out
      omega)
    have BK := hide (show ∀ W, Below w3.heap.size w3 W → Calls Tryd.prog 12 #[.agg (partC v.e v.c v.i v.p v.x A1 n1 c1 A2 n2 c2), .slice A3 m c3] W fun r w' => ∃ A' c' gs, r = .returned (.slice A' nb c') ∧ RowT 5 W.heap.size w' A' c' gs (blkS nb data) ∧ Below W.heap.size W w' from fun W hb => by
      rw [hnb]
      exact blocks_any v A1 A2 n1 c1 n2 c2 _ _ A3 m c3 w3.heap.size data W (HF.out.bl hb) HLN.out.2 (by omega) (by omega) (by omega) (HD.out.below hb) hb.size (by omega) hmc)
    unfold partC at BK
    clear hnb
    have X1L := hide (X1.out.below L.out.bel)
    obtain ⟨x0, x1, x2, x3, x4, x5, x6, x7, x8⟩ := op9S X1L.out
    go_wp2_with fail
    clear x0 x1 x2 x3 x4 x5 x6 x7 x8 X1L
    refine (BK.out w4 L.out.bel).mono ?_
    rintro r w5 ⟨A', c', gs, rfl, hR, hb⟩
    have RT := hide (hR.bq L.out.sz)
    have L5 := hide (L.out.below hb)
    clear hR hb
    have WC := hide (write_any w3 w5 d (freshD 4096) L5.out 3 (by unfold I64; omega) v A1 A2 n1 c1 n2 c2 _ _ SP.out (HF.out.bl L5.out.bel) (RwAt.bl HI.out L5.out.bel) (by omega) (by omega) (by omega) (fun f hf => (HL.out f hf).1) A' nb c' (blkS nb data) (by have := RT.out.bs; rw [blkS_len] at this; exact this) (by have := HNB.out; omega) (Nat.zero_le _) (Nat.zero_le _))
    unfold partC at WC
    have HRD := hide (wrS_read (D := freshD 4096) (a := 3) (v := v) (bs := blkS nb data) (fresh_l _) (fresh_q _))
    have e3 : ((3 : Nat) : Int) = 3 := rfl
    rw [e3] at HRD
    obtain ⟨R, hR⟩ : ∃ R, R = wrS (freshD 4096) 3 v (blkS nb data) := ⟨_, rfl⟩
    rw [← hR] at WC HRD
    clear hR e3
    obtain ⟨q, E⟩ := R
    dsimp only at WC HRD
    have X1L := hide (X1.out.below L5.out.bel)
    obtain ⟨x0, x1, x2, x3, x4, x5, x6, x7, x8⟩ := op9S X1L.out
    go_wp2_with fail
    clear x0 x1 x2 x3 x4 x5 x6 x7 x8 X1L
    refine WC.out.mono ?_
    rintro r w6 ⟨rfl, hst⟩
    have K6 := hide (stp_kt L5.out hst)
    have L6 := hide hst.ld
    have BM := hide (RT.out.kt K6.out (by decide) (by decide)).bm
    rw [blkS_len] at BM
    clear hst WC K6 RT L5
    by_cases hq : q = 0
    rotate_left
    · have hqn : (q != 0) = true := bne_iff_ne.2 hq
      clear hq
      go_wp2_with fail
      go_ret
      exact ⟨rfl, BW.out.trans (L6.out.bel.mono BW.out.size)⟩
    subst hq
    replace HRD := hide (HRD.out rfl)
    have hnb1 : nb ≤ 1000 := by have := HNB.out; omega
    obtain ⟨wS, hwS⟩ : ∃ W, W = w6 := ⟨_, rfl⟩
    rw [← hwS]
    rw [← hwS] at BM L6
    clear hwS
    have HOUT := hide (show ∀ k ∈ gs, w3.heap.size ≤ k ∧ Out w3 wS d E k from fun k hk => by
      obtain ⟨h1, cur, h2, -⟩ := BM.out.blk k hk
      exact ⟨h1, out_typeO L6.out h2 (by decide)⟩)
    go_wp2_with fail
    go_loopw [43] (fun y wr => ∃ i : Nat, i ≤ nb ∧ y = .int .i64 (i : Int) ∧ BmR 5 w3.heap.size wr A' nb c' gs ∧ Kp gs wS wr) (fun y _ => nb - (intOf y).toNat)
    case atStart => exact ⟨0, Nat.zero_le _, rfl, BM.out, Kp.refl _ _⟩
    case round =>
      clear BM
      obtain ⟨i, hi, rfl, hbm, hkp⟩ := hrel
      have BM := hide hbm
      have KP := hide hkp
      clear hbm hkp
      by_cases hlt : i < nb
      · have his : (i : Int) < (nb : Int) := by omega
        obtain ⟨b, g, z, rfl, -, hc, -, -⟩ := BM.out.at hlt (show 0 < 64 by decide)
        unfold gV at hc
        obtain ⟨wo, rfl⟩ : ∃ W, W = wr := ⟨_, rfl⟩
        go_wp2_with fail
        clear hc
        go_loopw [51] (fun y wz => ∃ k : Nat, k ≤ 64 ∧ y = .int .i64 (k : Int) ∧ BmR 5 w3.heap.size wz (some ⟨b, 0, none⟩) nb c' gs ∧ Kp gs wS wz) (fun y _ => 64 - (intOf y).toNat)
        case atStart => exact ⟨0, Nat.zero_le _, rfl, BM.out, KP.out⟩
        case round =>
          clear BM KP
          obtain ⟨k, hk, rfl, hbm, hkp⟩ := hrel
          have BM := hide hbm
          have KP := hide hkp
          clear hbm hkp
          by_cases hk64 : k < 64
          · have hks : (k : Int) < 64 := by omega
            obtain ⟨b2, g2, z, hA, hmg, hc, hz, hfz⟩ := BM.out.at hlt hk64
            obtain rfl : b = b2 := by simpa using hA
            unfold gV at hc
            have HMG := hide hmg
            clear hA hmg
            go_wp2_with fail
            go_roundw
            case rel => exact ⟨k + 1, by omega, by go_num, BM.out.set (by decide) HMG.out _, kp_set KP.out HMG.out _⟩
            case measure => simp [intOf]; omega
          · have hks : ¬ (k : Int) < 64 := by omega
            go_wp2_with fail
            go_roundw
            case rel => exact ⟨i + 1, by omega, by go_num, BM.out, KP.out⟩
            case measure => simp [intOf]; omega
      · have his : ¬ (i : Int) < (nb : Int) := by omega
        have L7 := hide (L6.out.kpO KP.out HOUT.out)
        clear KP BM
        have RC := hide (read_any w3 wr d E L7.out 3 (by unfold I64; omega) SP.out)
        go_wp2_with fail
        refine RC.out.mono ?_
        rintro r w8 ⟨hra, hb⟩
        obtain ⟨B1, d1, B2, d2, A4, c4, gs4, rfl, hfd⟩ := hra.ok HRD.out
        have FD := hide hfd
        have L8 := hide (L7.out.below hb)
        have HO4 := hide (show ∀ k, wr.heap.size ≤ k → k < w8.heap.size → Out w3 w8 d E k from fun k h1 h2 => L7.out.out hb h1 h2)
        have S7 := hide L7.out.sz
        clear hra hfd hb RC L7
        rw [blkS_len]
        unfold fdC
        go_upto_region 19 with fail
        obtain ⟨w9, hw⟩ : ∃ W, W = w8.alloc (.cells #[.int .i64 3, .int .i64 v.e, .int .i64 v.c, .int .i64 v.i, .int .i64 v.p, .int .i64 v.x, .slice B1 v.fs.length d1, .slice B2 v.is.length d2, .slice A4 nb c4] 39) := ⟨_, rfl⟩
        have ba := (show Below w8.heap.size w8 w9 by rw [hw]; exact (Below.refl _ _).alloc (Nat.le_refl _) _)
        have X8 : Hid (Blk w9 w8.heap.size 39 #[.int .i64 3, .int .i64 v.e, .int .i64 v.c, .int .i64 v.i, .int .i64 v.p, .int .i64 v.x, .slice B1 v.fs.length d1, .slice B2 v.is.length d2, .slice A4 nb c4]) := hide (by rw [hw]; exact Blk.new _ _ _)
        rw [← hw]
        obtain ⟨g8, hg⟩ : ∃ g, g = w8.heap.size := ⟨_, rfl⟩
        rw [← hg] at X8 ⊢
        have HGS := hide (show ∀ g ∈ gs4, w3.heap.size ≤ g ∧ Out w3 w9 d E g ∧ g ≠ g8 from fun g hg' => by
          obtain ⟨j, hj, e⟩ := List.getElem_of_mem hg'
          have hl := FD.out.b.len
          obtain ⟨h1, -, h3⟩ := FD.out.b.at_ j g _ (by rw [List.getElem?_eq_getElem hj, e]) (List.getElem?_eq_getElem (show j < (blkS nb data).length by omega))
          exact ⟨Nat.le_trans S7.out h1, (HO4.out g h1 h3.lt).below ba, by have := h3.lt; omega⟩)
        replace FD := hide (FD.out.below ba)
        have L9 := hide (L8.out.below ba)
        clear hw hg ba HO4 L8
        have hy := And.intro8 (op9S X8.out) (op9S (X1.out.below L9.out.bel))
        refine wp_region_noPanic ?_
        refine wp_region_held_drew (S := (fun w' => w'.cell? ⟨g8, 0, none⟩ = some (.int .i64 3) ∧ w'.cell? ⟨g8, 1, none⟩ = some (.int .i64 v.e) ∧ w'.cell? ⟨g8, 2, none⟩ = some (.int .i64 v.c) ∧ w'.cell? ⟨g8, 3, none⟩ = some (.int .i64 v.i) ∧ w'.cell? ⟨g8, 4, none⟩ = some (.int .i64 v.p) ∧ w'.cell? ⟨g8, 5, none⟩ = some (.int .i64 v.x) ∧ w'.cell? ⟨g8, 6, none⟩ = some (.slice B1 v.fs.length d1) ∧ w'.cell? ⟨g8, 7, none⟩ = some (.slice B2 v.is.length d2) ∧ w'.cell? ⟨g8, 8, none⟩ = some (.slice A4 nb c4) ∧ w'.cell? ⟨g1, 0, none⟩ = some (.int .i64 a) ∧ w'.cell? ⟨g1, 1, none⟩ = some (.int .i64 v.e) ∧ w'.cell? ⟨g1, 2, none⟩ = some (.int .i64 v.c) ∧ w'.cell? ⟨g1, 3, none⟩ = some (.int .i64 v.i) ∧ w'.cell? ⟨g1, 4, none⟩ = some (.int .i64 v.p) ∧ w'.cell? ⟨g1, 5, none⟩ = some (.int .i64 v.x) ∧ w'.cell? ⟨g1, 6, none⟩ = some (.slice A1 n1 c1) ∧ w'.cell? ⟨g1, 7, none⟩ = some (.slice A2 n2 c2) ∧ w'.cell? ⟨g1, 8, none⟩ = some (.slice A3 m c3))) (by kernel_rfl) ?_ (fun hHeld => ?_)
        · ((try dsimp only) <;> (first | trivial | assumption | go_keep))
        clear hy
        replace X8 := hide X8.out.drew
        replace L9 := hide L9.out.drew
        replace FD := hide (FD.out.below (Below.refl _ _).drew)
        replace HGS := hide (show ∀ g ∈ gs4, w3.heap.size ≤ g ∧ Out w3 w9.drew d E g ∧ g ≠ g8 from fun g hg => ⟨(HGS.out g hg).1, (HGS.out g hg).2.1.below (Below.refl _ _).drew, (HGS.out g hg).2.2⟩)
        generalize w9.drew = w10 at *
        refine wpAnyH_take (i := 0) (v := ?_) (by simp only [List.getElem?_toArray, List.getElem?_cons_succ, List.getElem?_cons_zero]; rfl) (by kernel_rfl) (by kernel_rfl) (by kernel_rfl) (fun _ _ _ h => h) (Or.inl ⟨by rfl, ?_⟩) (by assumption) ?_
        rotate_left 1
        · (intro w hSw; (try dsimp only at hSw); go_simp; try with_reducible rfl)
        try simp only [Act.put, List.setIfInBounds_toArray, List.set_cons_zero, List.set_cons_succ]
        refine wpAnyH_take (i := 1) (v := ?_) (by simp only [List.getElem?_toArray, List.getElem?_cons_succ, List.getElem?_cons_zero]; rfl) (by kernel_rfl) (by kernel_rfl) (by kernel_rfl) (fun _ _ _ h => h) (Or.inl ⟨by rfl, ?_⟩) (by assumption) ?_
        rotate_left 1
        · (intro w hSw; (try dsimp only at hSw); go_simp; try with_reducible rfl)
        try simp only [Act.put, List.setIfInBounds_toArray, List.set_cons_zero, List.set_cons_succ]
        refine wpAnyH_take (i := 2) (v := ?_) (by simp only [List.getElem?_toArray, List.getElem?_cons_succ, List.getElem?_cons_zero]; rfl) (by kernel_rfl) (by kernel_rfl) (by kernel_rfl) (fun _ _ _ h => h) (Or.inl ⟨by rfl, ?_⟩) (by assumption) ?_
        rotate_left 1
        · (intro w hSw; (try dsimp only at hSw); go_simp; try with_reducible rfl)
        try simp only [Act.put, List.setIfInBounds_toArray, List.set_cons_zero, List.set_cons_succ]
        refine wpAnyH_take (i := 3) (v := ?_) (by simp only [List.getElem?_toArray, List.getElem?_cons_succ, List.getElem?_cons_zero]; rfl) (by kernel_rfl) (by kernel_rfl) (by kernel_rfl) (fun _ _ _ h => h) (Or.inl ⟨by rfl, ?_⟩) (by assumption) ?_
        rotate_left 1
        · (intro w hSw; (try dsimp only at hSw); go_simp; try with_reducible rfl)
        try simp only [Act.put, List.setIfInBounds_toArray, List.set_cons_zero, List.set_cons_succ]
        refine wpAnyH_take (i := 5) (v := ?_) (by simp only [List.getElem?_toArray, List.getElem?_cons_succ, List.getElem?_cons_zero]; rfl) (by kernel_rfl) (by kernel_rfl) (by kernel_rfl) (fun _ _ _ h => h) (Or.inl ⟨by rfl, ?_⟩) (by assumption) ?_
        rotate_left 1
        · (intro w hSw; (try dsimp only at hSw); go_simp; try with_reducible rfl)
        try simp only [Act.put, List.setIfInBounds_toArray, List.set_cons_zero, List.set_cons_succ]
        refine wpAnyH_take (i := 6) (v := ?_) (by simp only [List.getElem?_toArray, List.getElem?_cons_succ, List.getElem?_cons_zero]; rfl) (by kernel_rfl) (by kernel_rfl) (by kernel_rfl) (fun _ _ _ h => h) (Or.inl ⟨by rfl, ?_⟩) (by assumption) ?_
        rotate_left 1
        · (intro w hSw; (try dsimp only at hSw); go_simp; try with_reducible rfl)
        try simp only [Act.put, List.setIfInBounds_toArray, List.set_cons_zero, List.set_cons_succ]
        refine wpAnyH_take (i := 7) (v := ?_) (by simp only [List.getElem?_toArray, List.getElem?_cons_succ, List.getElem?_cons_zero]; rfl) (by kernel_rfl) (by kernel_rfl) (by kernel_rfl) (fun _ _ _ h => h) (Or.inl ⟨by rfl, ?_⟩) (by assumption) ?_
        rotate_left 1
        · (intro w hSw; (try dsimp only at hSw); go_simp; try with_reducible rfl)
        try simp only [Act.put, List.setIfInBounds_toArray, List.set_cons_zero, List.set_cons_succ]
        refine wpAnyH_take (i := 8) (v := ?_) (by simp only [List.getElem?_toArray, List.getElem?_cons_succ, List.getElem?_cons_zero]; rfl) (by kernel_rfl) (by kernel_rfl) (by kernel_rfl) (fun _ _ _ h => h) (Or.inl ⟨by rfl, ?_⟩) (by assumption) ?_
        rotate_left 1
        · (intro w hSw; (try dsimp only at hSw); go_simp; try with_reducible rfl)
        try simp only [Act.put, List.setIfInBounds_toArray, List.set_cons_zero, List.set_cons_succ]
        refine wpAnyH_take (i := 9) (v := ?_) (by simp only [List.getElem?_toArray, List.getElem?_cons_succ, List.getElem?_cons_zero]; rfl) (by kernel_rfl) (by kernel_rfl) (by kernel_rfl) (fun _ _ _ h => h) (Or.inl ⟨by rfl, ?_⟩) (by assumption) ?_
        rotate_left 1
        · (intro w hSw; (try dsimp only at hSw); go_simp; try with_reducible rfl)
        try simp only [Act.put, List.setIfInBounds_toArray, List.set_cons_zero, List.set_cons_succ]
        refine wpAnyH_take (i := 10) (v := ?_) (by simp only [List.getElem?_toArray, List.getElem?_cons_succ, List.getElem?_cons_zero]; rfl) (by kernel_rfl) (by kernel_rfl) (by kernel_rfl) (fun _ _ _ h => h) (Or.inl ⟨by rfl, ?_⟩) (by assumption) ?_
        rotate_left 1
        · (intro w hSw; (try dsimp only at hSw); go_simp; try with_reducible rfl)
        try simp only [Act.put, List.setIfInBounds_toArray, List.set_cons_zero, List.set_cons_succ]
        have RF := hide (ref15 w10 3 v B1 B2 A4 d1 d2 nb c4 (blkS nb data) (by have := FD.out.b.txs; rw [blkS_len] at this; exact this) (by omega))
        unfold fdC at RF
        have B10 := hide (Below.refl w10.heap.size w10)
        refine wpAnyH_ready (rs := [4]) (by kernel_rfl) (by simp) ?_
        refine AllReadyH.cons (by simp only [List.getElem?_toArray, List.getElem?_cons_succ, List.getElem?_cons_zero]; rfl) (fun K hK => ?_) ?_
        rotate_left 1
        · exact AllReadyH.nil
        go_simp
        refine RF.out.mono ?_; rintro r w11 ⟨A5, c5, rfl, ho, hb⟩; have O5 := hide ho; replace B10 := hide hb; have hy := And.intro8 (op9S (X8.out.below hb)) (op9S (X1.out.below (L9.out.below hb).bel)); clear ho hb
        refine hK.out _ _ ?_ (fun hHeld2 => ?_)
        · ((try dsimp only) <;> (first | trivial | assumption | go_keep))
        clear hHeld
        have hHeld := hHeld2
        clear hHeld2 hK K
        try simp only [Act.put, List.setIfInBounds_toArray, List.set_cons_zero, List.set_cons_succ]
        clear hHeld RF
        have hHeld := hy
        clear hy
        have BK2 := BK.out w11 (L9.out.below B10.out).bel
        refine wpAnyH_ready (rs := [11]) (by kernel_rfl) (by simp) ?_
        refine AllReadyH.cons (by simp only [List.getElem?_toArray, List.getElem?_cons_succ, List.getElem?_cons_zero]; rfl) (fun K hK => ?_) ?_
        rotate_left 1
        · exact AllReadyH.nil
        go_simp
        refine BK2.mono ?_; rintro r w12 ⟨A6, c6, gs6, rfl, hR, hb⟩; have RT6 := hide hR; have S11 := hide B10.out.size; replace O5 := hide (own_bel O5.out hb); replace B10 := hide (B10.out.trans (hb.mono B10.out.size)); have hy := And.intro8 (op9S (X8.out.below B10.out)) (op9S (X1.out.below (L9.out.below B10.out).bel)); clear hR hb
        refine hK.out _ _ ?_ (fun hHeld2 => ?_)
        · ((try dsimp only) <;> (first | trivial | assumption | go_keep))
        clear hHeld
        have hHeld := hHeld2
        clear hHeld2 hK K
        try simp only [Act.put, List.setIfInBounds_toArray, List.set_cons_zero, List.set_cons_succ]
        clear hHeld BK2
        have hHeld := hy
        clear hy
        have TX := texts15 w12 A6 nb c6 (blkS nb data) (by have := RT6.out.txs; rw [blkS_len] at this; exact this) (by omega)
        refine wpAnyH_ready (rs := [12]) (by kernel_rfl) (by simp) ?_
        refine AllReadyH.cons (by simp only [List.getElem?_toArray, List.getElem?_cons_succ, List.getElem?_cons_zero]; rfl) (fun K hK => ?_) ?_
        rotate_left 1
        · exact AllReadyH.nil
        go_simp
        refine TX.mono ?_; rintro r w13 ⟨A7, c7, rfl, ho, hb⟩; have O7 := hide ho; replace O5 := hide (own_bel O5.out hb); replace B10 := hide (B10.out.trans (hb.mono B10.out.size)); have hy := And.intro8 (op9S (X8.out.below B10.out)) (op9S (X1.out.below (L9.out.below B10.out).bel)); clear ho hb
        refine hK.out _ _ ?_ (fun hHeld2 => ?_)
        · ((try dsimp only) <;> (first | trivial | assumption | go_keep))
        clear hHeld
        have hHeld := hHeld2
        clear hHeld2 hK K
        try simp only [Act.put, List.setIfInBounds_toArray, List.set_cons_zero, List.set_cons_succ]
        clear hHeld TX RT6
        have hHeld := hy
        clear hy
        refine wpAnyH_take (i := 13) (v := ?_) (by simp only [List.getElem?_toArray, List.getElem?_cons_succ, List.getElem?_cons_zero]; rfl) (by kernel_rfl) (by kernel_rfl) (by kernel_rfl) (fun _ _ _ h => h) (Or.inl ⟨by rfl, ?_⟩) (by assumption) ?_
        rotate_left 1
        · (intro w hSw; (try dsimp only at hSw); go_simp; try with_reducible rfl)
        try simp only [Act.put, List.setIfInBounds_toArray, List.set_cons_zero, List.set_cons_succ]
        have hfl : ∀ f ∈ v.fs, f.ls.length ≤ 1000000 := fun f hf => by have := lsN_all hls2 f hf; omega
        have SM := same15 w13 3 3 v v B1 B2 A5 A1 A2 A7 v.fs.length d1 v.is.length d2 nb c5 n1 c1 n2 c2 nb c7 _ _ _ _ _ _ _ _ _ _ (blkS nb data) (blkS nb data) (FD.out.f.below B10.out) (HF.out.bl (L9.out.below B10.out).bel) (RwAt.below FD.out.i B10.out) (RwAt.bl HI.out (L9.out.below B10.out).bel) (by rw [HLN.out.1]; omega) (by omega) (by rw [HLN.out.2]; omega) (by omega) hfl hfl (Sl.of_own O5.out) (Sl.of_own O7.out) (Nat.le_refl _) (Nat.le_refl _) (by omega) (by omega)
        rw [decide_eq_true ⟨rfl, rfl, rfl⟩] at SM
        unfold rfC at SM
        refine wpAnyH_ready (rs := [14]) (by kernel_rfl) (by simp) ?_
        refine AllReadyH.cons (by simp only [List.getElem?_toArray, List.getElem?_cons_succ, List.getElem?_cons_zero]; rfl) (fun K hK => ?_) ?_
        rotate_left 1
        · exact AllReadyH.nil
        go_simp
        refine SM.mono ?_; rintro r w14 ⟨rfl, hb⟩; replace B10 := hide (B10.out.trans (hb.mono B10.out.size)); have hy := And.intro8 (op9S (X8.out.below B10.out)) (op9S (X1.out.below (L9.out.below B10.out).bel)); clear hb
        refine hK.out _ _ ?_ (fun hHeld2 => ?_)
        · ((try dsimp only) <;> (first | trivial | assumption | go_keep))
        clear hHeld
        have hHeld := hHeld2
        clear hHeld2 hK K
        try simp only [Act.put, List.setIfInBounds_toArray, List.set_cons_zero, List.set_cons_succ]
        clear hHeld SM O5 O7
        have hHeld := hy
        clear hy
        refine wpAnyH_take (i := 15) (v := ?_) (by simp only [List.getElem?_toArray, List.getElem?_cons_succ, List.getElem?_cons_zero]; rfl) (by kernel_rfl) (by kernel_rfl) (by kernel_rfl) (fun _ _ _ h => h) (Or.inl ⟨by rfl, ?_⟩) (by assumption) ?_
        rotate_left 1
        · (intro w hSw; (try dsimp only at hSw); go_simp; try with_reducible rfl)
        try simp only [Act.put, List.setIfInBounds_toArray, List.set_cons_zero, List.set_cons_succ]
        refine wpAnyH_take (i := 16) (v := ?_) (by simp only [List.getElem?_toArray, List.getElem?_cons_succ, List.getElem?_cons_zero]; rfl) (by kernel_rfl) (by kernel_rfl) (by kernel_rfl) (fun _ _ _ h => h) (Or.inl ⟨by rfl, ?_⟩) (by assumption) ?_
        rotate_left 1
        · (intro w hSw; (try dsimp only at hSw); go_simp; try with_reducible rfl)
        try simp only [Act.put, List.setIfInBounds_toArray, List.set_cons_zero, List.set_cons_succ]
        refine wpAnyH_done (by kernel_rfl) ?_ _
        refine NoPanic.normal ?_
        clear hHeld hfl
        obtain ⟨wT, hwT⟩ : ∃ W, W = w14 := ⟨_, rfl⟩
        rw [← hwT]
        rw [← hwT] at B10
        clear hwT
        have L14 := hide (L9.out.below B10.out)
        replace X8 := hide (X8.out.below B10.out)
        have BM := hide (show BmR 122 wr.heap.size wT A4 nb c4 gs4 from by have := (FD.out.b.below B10.out).bm; rw [blkS_len] at this; exact this)
        obtain ⟨b4, hb4⟩ : ∃ x, x = wr.heap.size := ⟨_, rfl⟩
        rw [← hb4] at BM
        clear hb4
        have HOUT4 := hide (show ∀ g ∈ gs4, w3.heap.size ≤ g ∧ Out w3 wT d E g from fun g hg => ⟨(HGS.out g hg).1, (HGS.out g hg).2.1.below B10.out⟩)
        have HG8 := hide (show g8 ∉ gs4 from fun hg => (HGS.out g8 hg).2.2 rfl)
        clear HGS FD B10 L9
        have y8 := X8.out.cell 8
        simp only [List.getElem?_toArray, List.getElem?_cons_succ, List.getElem?_cons_zero] at y8
        go_wp2_with fail
        clear y8
        go_loopw [90] (fun y wz => ∃ i : Nat, i ≤ nb ∧ y = .int .i64 (i : Int) ∧ BmR 122 b4 wz A4 nb c4 gs4 ∧ Kp gs4 wT wz) (fun y _ => nb - (intOf y).toNat)
        case atStart => exact ⟨0, Nat.zero_le _, rfl, BM.out, Kp.refl _ _⟩
        case round =>
          clear BM
          obtain ⟨i, hi, rfl, hbm, hkp⟩ := hrel
          have BM := hide hbm
          have KP := hide hkp
          clear hbm hkp
          by_cases hlt : i < nb
          · have his : (i : Int) < (nb : Int) := by omega
            obtain ⟨b, g, z, rfl, -, hc, -, -⟩ := BM.out.at hlt (show 0 < 64 by decide)
            unfold gV at hc
            obtain ⟨wo, rfl⟩ : ∃ W, W = wr := ⟨_, rfl⟩
            have y8 := (X8.out.kp KP.out HG8.out).cell 8
            simp only [List.getElem?_toArray, List.getElem?_cons_succ, List.getElem?_cons_zero] at y8
            go_wp2_with fail
            clear hc y8
            go_loopw [99] (fun y wz => ∃ k : Nat, k ≤ 64 ∧ y = .int .i64 (k : Int) ∧ BmR 122 b4 wz (some ⟨b, 0, none⟩) nb c4 gs4 ∧ Kp gs4 wT wz) (fun y _ => 64 - (intOf y).toNat)
            case atStart => exact ⟨0, Nat.zero_le _, rfl, BM.out, KP.out⟩
            case round =>
              clear BM KP
              obtain ⟨k, hk, rfl, hbm, hkp⟩ := hrel
              have BM := hide hbm
              have KP := hide hkp
              clear hbm hkp
              have y8 := (X8.out.kp KP.out HG8.out).cell 8
              simp only [List.getElem?_toArray, List.getElem?_cons_succ, List.getElem?_cons_zero] at y8
              by_cases hk64 : k < 64
              · have hks : (k : Int) < 64 := by omega
                obtain ⟨b2, g2, z, hA, hmg, hc, hz, hfz⟩ := BM.out.at hlt hk64
                obtain rfl : b = b2 := by simpa using hA
                unfold gV at hc
                have HMG := hide hmg
                clear hA hmg
                go_wp2_with fail
                go_roundw
                case rel => exact ⟨k + 1, by omega, by go_num, BM.out.set (by decide) HMG.out _, kp_set KP.out HMG.out _⟩
                case measure => simp [intOf]; omega
              · have hks : ¬ (k : Int) < 64 := by omega
                clear y8
                go_wp2_with fail
                go_roundw
                case rel => exact ⟨i + 1, by omega, by go_num, BM.out, KP.out⟩
                case measure => simp [intOf]; omega
          · have his : ¬ (i : Int) < (nb : Int) := by omega
            have LN := hide (L14.out.kpO KP.out HOUT4.out)
            clear KP BM
            have RC := hide (read_any w3 wr d E LN.out 3 (by unfold I64; omega) SP.out)
            go_wp2_with fail
            refine RC.out.mono ?_
            rintro r w8 ⟨hra, hb⟩
            obtain ⟨P1, e1, P2, e2, A8, c8, gs8, rfl, hfd⟩ := hra.ok HRD.out
            have FD := hide hfd
            have L8 := hide (LN.out.below hb)
            clear hra hfd hb RC LN
            rw [blkS_len]
            unfold fdC
            go_upto_region 31 with fail
            obtain ⟨w9, hw⟩ : ∃ W, W = w8.alloc (.cells #[.int .i64 3, .int .i64 v.e, .int .i64 v.c, .int .i64 v.i, .int .i64 v.p, .int .i64 v.x, .slice P1 v.fs.length e1, .slice P2 v.is.length e2, .slice A8 nb c8] 39) := ⟨_, rfl⟩
            have ba := (show Below w8.heap.size w8 w9 by rw [hw]; exact (Below.refl _ _).alloc (Nat.le_refl _) _)
            have X11 : Hid (Blk w9 w8.heap.size 39 #[.int .i64 3, .int .i64 v.e, .int .i64 v.c, .int .i64 v.i, .int .i64 v.p, .int .i64 v.x, .slice P1 v.fs.length e1, .slice P2 v.is.length e2, .slice A8 nb c8]) := hide (by rw [hw]; exact Blk.new _ _ _)
            rw [← hw]
            obtain ⟨g11, hg⟩ : ∃ g, g = w8.heap.size := ⟨_, rfl⟩
            rw [← hg] at X11 ⊢
            replace FD := hide (FD.out.below ba)
            have L9 := hide (L8.out.below ba)
            clear hw hg ba L8
            have hy := And.intro8 (op9S X11.out) (op9S (X1.out.below L9.out.bel))
            refine wp_region_noPanic ?_
            refine wp_region_held_drew (S := (fun w' => w'.cell? ⟨g11, 0, none⟩ = some (.int .i64 3) ∧ w'.cell? ⟨g11, 1, none⟩ = some (.int .i64 v.e) ∧ w'.cell? ⟨g11, 2, none⟩ = some (.int .i64 v.c) ∧ w'.cell? ⟨g11, 3, none⟩ = some (.int .i64 v.i) ∧ w'.cell? ⟨g11, 4, none⟩ = some (.int .i64 v.p) ∧ w'.cell? ⟨g11, 5, none⟩ = some (.int .i64 v.x) ∧ w'.cell? ⟨g11, 6, none⟩ = some (.slice P1 v.fs.length e1) ∧ w'.cell? ⟨g11, 7, none⟩ = some (.slice P2 v.is.length e2) ∧ w'.cell? ⟨g11, 8, none⟩ = some (.slice A8 nb c8) ∧ w'.cell? ⟨g1, 0, none⟩ = some (.int .i64 a) ∧ w'.cell? ⟨g1, 1, none⟩ = some (.int .i64 v.e) ∧ w'.cell? ⟨g1, 2, none⟩ = some (.int .i64 v.c) ∧ w'.cell? ⟨g1, 3, none⟩ = some (.int .i64 v.i) ∧ w'.cell? ⟨g1, 4, none⟩ = some (.int .i64 v.p) ∧ w'.cell? ⟨g1, 5, none⟩ = some (.int .i64 v.x) ∧ w'.cell? ⟨g1, 6, none⟩ = some (.slice A1 n1 c1) ∧ w'.cell? ⟨g1, 7, none⟩ = some (.slice A2 n2 c2) ∧ w'.cell? ⟨g1, 8, none⟩ = some (.slice A3 m c3))) (by kernel_rfl) ?_ (fun hHeld => ?_)
            · ((try dsimp only) <;> (first | trivial | assumption | go_keep))
            clear hy
            replace X11 := hide X11.out.drew
            replace L9 := hide L9.out.drew
            replace FD := hide (FD.out.below (Below.refl _ _).drew)
            generalize w9.drew = w10 at *
            refine wpAnyH_take (i := 0) (v := ?_) (by simp only [List.getElem?_toArray, List.getElem?_cons_succ, List.getElem?_cons_zero]; rfl) (by kernel_rfl) (by kernel_rfl) (by kernel_rfl) (fun _ _ _ h => h) (Or.inl ⟨by rfl, ?_⟩) (by assumption) ?_
            rotate_left 1
            · (intro w hSw; (try dsimp only at hSw); go_simp; try with_reducible rfl)
            try simp only [Act.put, List.setIfInBounds_toArray, List.set_cons_zero, List.set_cons_succ]
            refine wpAnyH_take (i := 1) (v := ?_) (by simp only [List.getElem?_toArray, List.getElem?_cons_succ, List.getElem?_cons_zero]; rfl) (by kernel_rfl) (by kernel_rfl) (by kernel_rfl) (fun _ _ _ h => h) (Or.inl ⟨by rfl, ?_⟩) (by assumption) ?_
            rotate_left 1
            · (intro w hSw; (try dsimp only at hSw); go_simp; try with_reducible rfl)
            try simp only [Act.put, List.setIfInBounds_toArray, List.set_cons_zero, List.set_cons_succ]
            refine wpAnyH_take (i := 2) (v := ?_) (by simp only [List.getElem?_toArray, List.getElem?_cons_succ, List.getElem?_cons_zero]; rfl) (by kernel_rfl) (by kernel_rfl) (by kernel_rfl) (fun _ _ _ h => h) (Or.inl ⟨by rfl, ?_⟩) (by assumption) ?_
            rotate_left 1
            · (intro w hSw; (try dsimp only at hSw); go_simp; try with_reducible rfl)
            try simp only [Act.put, List.setIfInBounds_toArray, List.set_cons_zero, List.set_cons_succ]
            refine wpAnyH_take (i := 3) (v := ?_) (by simp only [List.getElem?_toArray, List.getElem?_cons_succ, List.getElem?_cons_zero]; rfl) (by kernel_rfl) (by kernel_rfl) (by kernel_rfl) (fun _ _ _ h => h) (Or.inl ⟨by rfl, ?_⟩) (by assumption) ?_
            rotate_left 1
            · (intro w hSw; (try dsimp only at hSw); go_simp; try with_reducible rfl)
            try simp only [Act.put, List.setIfInBounds_toArray, List.set_cons_zero, List.set_cons_succ]
            refine wpAnyH_take (i := 5) (v := ?_) (by simp only [List.getElem?_toArray, List.getElem?_cons_succ, List.getElem?_cons_zero]; rfl) (by kernel_rfl) (by kernel_rfl) (by kernel_rfl) (fun _ _ _ h => h) (Or.inl ⟨by rfl, ?_⟩) (by assumption) ?_
            rotate_left 1
            · (intro w hSw; (try dsimp only at hSw); go_simp; try with_reducible rfl)
            try simp only [Act.put, List.setIfInBounds_toArray, List.set_cons_zero, List.set_cons_succ]
            refine wpAnyH_take (i := 6) (v := ?_) (by simp only [List.getElem?_toArray, List.getElem?_cons_succ, List.getElem?_cons_zero]; rfl) (by kernel_rfl) (by kernel_rfl) (by kernel_rfl) (fun _ _ _ h => h) (Or.inl ⟨by rfl, ?_⟩) (by assumption) ?_
            rotate_left 1
            · (intro w hSw; (try dsimp only at hSw); go_simp; try with_reducible rfl)
            try simp only [Act.put, List.setIfInBounds_toArray, List.set_cons_zero, List.set_cons_succ]
            refine wpAnyH_take (i := 7) (v := ?_) (by simp only [List.getElem?_toArray, List.getElem?_cons_succ, List.getElem?_cons_zero]; rfl) (by kernel_rfl) (by kernel_rfl) (by kernel_rfl) (fun _ _ _ h => h) (Or.inl ⟨by rfl, ?_⟩) (by assumption) ?_
            rotate_left 1
            · (intro w hSw; (try dsimp only at hSw); go_simp; try with_reducible rfl)
            try simp only [Act.put, List.setIfInBounds_toArray, List.set_cons_zero, List.set_cons_succ]
            refine wpAnyH_take (i := 8) (v := ?_) (by simp only [List.getElem?_toArray, List.getElem?_cons_succ, List.getElem?_cons_zero]; rfl) (by kernel_rfl) (by kernel_rfl) (by kernel_rfl) (fun _ _ _ h => h) (Or.inl ⟨by rfl, ?_⟩) (by assumption) ?_
            rotate_left 1
            · (intro w hSw; (try dsimp only at hSw); go_simp; try with_reducible rfl)
            try simp only [Act.put, List.setIfInBounds_toArray, List.set_cons_zero, List.set_cons_succ]
            refine wpAnyH_take (i := 9) (v := ?_) (by simp only [List.getElem?_toArray, List.getElem?_cons_succ, List.getElem?_cons_zero]; rfl) (by kernel_rfl) (by kernel_rfl) (by kernel_rfl) (fun _ _ _ h => h) (Or.inl ⟨by rfl, ?_⟩) (by assumption) ?_
            rotate_left 1
            · (intro w hSw; (try dsimp only at hSw); go_simp; try with_reducible rfl)
            try simp only [Act.put, List.setIfInBounds_toArray, List.set_cons_zero, List.set_cons_succ]
            refine wpAnyH_take (i := 10) (v := ?_) (by simp only [List.getElem?_toArray, List.getElem?_cons_succ, List.getElem?_cons_zero]; rfl) (by kernel_rfl) (by kernel_rfl) (by kernel_rfl) (fun _ _ _ h => h) (Or.inl ⟨by rfl, ?_⟩) (by assumption) ?_
            rotate_left 1
            · (intro w hSw; (try dsimp only at hSw); go_simp; try with_reducible rfl)
            try simp only [Act.put, List.setIfInBounds_toArray, List.set_cons_zero, List.set_cons_succ]
            have RF := hide (ref15 w10 3 v P1 P2 A8 e1 e2 nb c8 (blkS nb data) (by have := FD.out.b.txs; rw [blkS_len] at this; exact this) (by omega))
            unfold fdC at RF
            have B10 := hide (Below.refl w10.heap.size w10)
            refine wpAnyH_ready (rs := [4]) (by kernel_rfl) (by simp) ?_
            refine AllReadyH.cons (by simp only [List.getElem?_toArray, List.getElem?_cons_succ, List.getElem?_cons_zero]; rfl) (fun K hK => ?_) ?_
            rotate_left 1
            · exact AllReadyH.nil
            go_simp
            refine RF.out.mono ?_; rintro r w11 ⟨A5, c5, rfl, ho, hb⟩; have O5 := hide ho; replace B10 := hide hb; have hy := And.intro8 (op9S (X11.out.below hb)) (op9S (X1.out.below (L9.out.below hb).bel)); clear ho hb
            refine hK.out _ _ ?_ (fun hHeld2 => ?_)
            · ((try dsimp only) <;> (first | trivial | assumption | go_keep))
            clear hHeld
            have hHeld := hHeld2
            clear hHeld2 hK K
            try simp only [Act.put, List.setIfInBounds_toArray, List.set_cons_zero, List.set_cons_succ]
            clear hHeld RF
            have hHeld := hy
            clear hy
            have BK2 := BK.out w11 (L9.out.below B10.out).bel
            refine wpAnyH_ready (rs := [11]) (by kernel_rfl) (by simp) ?_
            refine AllReadyH.cons (by simp only [List.getElem?_toArray, List.getElem?_cons_succ, List.getElem?_cons_zero]; rfl) (fun K hK => ?_) ?_
            rotate_left 1
            · exact AllReadyH.nil
            go_simp
            refine BK2.mono ?_; rintro r w12 ⟨A6, c6, gs6, rfl, hR, hb⟩; have RT6 := hide hR; replace O5 := hide (own_bel O5.out hb); replace B10 := hide (B10.out.trans (hb.mono B10.out.size)); have hy := And.intro8 (op9S (X11.out.below B10.out)) (op9S (X1.out.below (L9.out.below B10.out).bel)); clear hR hb
            refine hK.out _ _ ?_ (fun hHeld2 => ?_)
            · ((try dsimp only) <;> (first | trivial | assumption | go_keep))
            clear hHeld
            have hHeld := hHeld2
            clear hHeld2 hK K
            try simp only [Act.put, List.setIfInBounds_toArray, List.set_cons_zero, List.set_cons_succ]
            clear hHeld BK2
            have hHeld := hy
            clear hy
            have TX := texts15 w12 A6 nb c6 (blkS nb data) (by have := RT6.out.txs; rw [blkS_len] at this; exact this) (by omega)
            refine wpAnyH_ready (rs := [12]) (by kernel_rfl) (by simp) ?_
            refine AllReadyH.cons (by simp only [List.getElem?_toArray, List.getElem?_cons_succ, List.getElem?_cons_zero]; rfl) (fun K hK => ?_) ?_
            rotate_left 1
            · exact AllReadyH.nil
            go_simp
            refine TX.mono ?_; rintro r w13 ⟨A7, c7, rfl, ho, hb⟩; have O7 := hide ho; replace O5 := hide (own_bel O5.out hb); replace B10 := hide (B10.out.trans (hb.mono B10.out.size)); have hy := And.intro8 (op9S (X11.out.below B10.out)) (op9S (X1.out.below (L9.out.below B10.out).bel)); clear ho hb
            refine hK.out _ _ ?_ (fun hHeld2 => ?_)
            · ((try dsimp only) <;> (first | trivial | assumption | go_keep))
            clear hHeld
            have hHeld := hHeld2
            clear hHeld2 hK K
            try simp only [Act.put, List.setIfInBounds_toArray, List.set_cons_zero, List.set_cons_succ]
            clear hHeld TX RT6
            have hHeld := hy
            clear hy
            refine wpAnyH_take (i := 13) (v := ?_) (by simp only [List.getElem?_toArray, List.getElem?_cons_succ, List.getElem?_cons_zero]; rfl) (by kernel_rfl) (by kernel_rfl) (by kernel_rfl) (fun _ _ _ h => h) (Or.inl ⟨by rfl, ?_⟩) (by assumption) ?_
            rotate_left 1
            · (intro w hSw; (try dsimp only at hSw); go_simp; try with_reducible rfl)
            try simp only [Act.put, List.setIfInBounds_toArray, List.set_cons_zero, List.set_cons_succ]
            have hfl : ∀ f ∈ v.fs, f.ls.length ≤ 1000000 := fun f hf => by have := lsN_all hls2 f hf; omega
            have SM := same15 w13 3 3 v v P1 P2 A5 A1 A2 A7 v.fs.length e1 v.is.length e2 nb c5 n1 c1 n2 c2 nb c7 _ _ _ _ _ _ _ _ _ _ (blkS nb data) (blkS nb data) (FD.out.f.below B10.out) (HF.out.bl (L9.out.below B10.out).bel) (RwAt.below FD.out.i B10.out) (RwAt.bl HI.out (L9.out.below B10.out).bel) (by rw [HLN.out.1]; omega) (by omega) (by rw [HLN.out.2]; omega) (by omega) hfl hfl (Sl.of_own O5.out) (Sl.of_own O7.out) (Nat.le_refl _) (Nat.le_refl _) (by omega) (by omega)
            rw [decide_eq_true ⟨rfl, rfl, rfl⟩] at SM
            unfold rfC at SM
            refine wpAnyH_ready (rs := [14]) (by kernel_rfl) (by simp) ?_
            refine AllReadyH.cons (by simp only [List.getElem?_toArray, List.getElem?_cons_succ, List.getElem?_cons_zero]; rfl) (fun K hK => ?_) ?_
            rotate_left 1
            · exact AllReadyH.nil
            go_simp
            refine SM.mono ?_; rintro r w14 ⟨rfl, hb⟩; replace B10 := hide (B10.out.trans (hb.mono B10.out.size)); have hy := And.intro8 (op9S (X11.out.below B10.out)) (op9S (X1.out.below (L9.out.below B10.out).bel)); clear hb
            refine hK.out _ _ ?_ (fun hHeld2 => ?_)
            · ((try dsimp only) <;> (first | trivial | assumption | go_keep))
            clear hHeld
            have hHeld := hHeld2
            clear hHeld2 hK K
            try simp only [Act.put, List.setIfInBounds_toArray, List.set_cons_zero, List.set_cons_succ]
            clear hHeld SM O5 O7
            have hHeld := hy
            clear hy
            refine wpAnyH_take (i := 15) (v := ?_) (by simp only [List.getElem?_toArray, List.getElem?_cons_succ, List.getElem?_cons_zero]; rfl) (by kernel_rfl) (by kernel_rfl) (by kernel_rfl) (fun _ _ _ h => h) (Or.inl ⟨by rfl, ?_⟩) (by assumption) ?_
            rotate_left 1
            · (intro w hSw; (try dsimp only at hSw); go_simp; try with_reducible rfl)
            try simp only [Act.put, List.setIfInBounds_toArray, List.set_cons_zero, List.set_cons_succ]
            refine wpAnyH_take (i := 16) (v := ?_) (by simp only [List.getElem?_toArray, List.getElem?_cons_succ, List.getElem?_cons_zero]; rfl) (by kernel_rfl) (by kernel_rfl) (by kernel_rfl) (fun _ _ _ h => h) (Or.inl ⟨by rfl, ?_⟩) (by assumption) ?_
            rotate_left 1
            · (intro w hSw; (try dsimp only at hSw); go_simp; try with_reducible rfl)
            try simp only [Act.put, List.setIfInBounds_toArray, List.set_cons_zero, List.set_cons_succ]
            refine wpAnyH_done (by kernel_rfl) ?_ _
            refine NoPanic.normal ?_
            clear hHeld hfl
            go_wp2_with fail
            go_ret
            exact ⟨rfl, BW.out.trans ((L9.out.below B10.out).bel.mono BW.out.size)⟩
end Go.Proofs.YtlobkefacnedeaaDoor
