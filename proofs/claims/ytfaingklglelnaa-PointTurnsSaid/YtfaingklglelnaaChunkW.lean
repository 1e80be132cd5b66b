/- slices.Chunk of bytes: the iterator's contract. -/
import Derived.Test.YtfaingklglelnaaProg
import Derived.Test.YtfaingklglelnaaMem
import Derived.Test.YtfaingklglelnaaBlk
import Derived.Test.YtfaingklglelnaaEty8
import Derived.RangeFuncNested
import Derived.RangeFuncBound
import Derived.RangeFuncBox
import Derived.RangeFuncLeaves
import Derived.Shelf.Abstract
import Derived.Shelf.RegionOpen
import Derived.WalkKit
import Derived.OwnWalkIn
import Derived.TacticsInMore
import Derived.LoopNIn
import Derived.LoopIn
import Derived.Deep.RegionHeld3
import Derived.Deep.MidRow
namespace Go.Proofs.Ytfaingklglelnaa
open Go.RowKit Go.Shelf
attribute [local go_sem] Oper.semAt_some
/-- Go's min, kept whole in a walk. -/
def minK_KpS_refl (ts : Array TypeId) (t : TypeId) (vs : Array Value) : Sem Value := Builtin.min_ ts t vs
theorem minK_KpS_refl_keep (ts : Array TypeId) (t : TypeId) (vs : Array Value) : Builtin.min_ ts t vs = minK_KpS_refl ts t vs := rfl
attribute [local go_sem ↓] minK_KpS_refl_keep

/-- These blocks stay. -/
def KpS (gs : List Nat) (A B : World) : Prop := ∀ g ∈ gs, B.heap[g]? = A.heap[g]?
theorem KpS.refl (gs : List Nat) (A : World) : KpS gs A A := fun _ _ => rfl
theorem KpS.trans {gs : List Nat} {A B C : World} (h : KpS gs A B) (k : KpS gs B C) : KpS gs A C := fun g hg => (k g hg).trans (h g hg)
theorem KpS.put {gs : List Nat} {w : World} (hlt : ∀ g ∈ gs, g < w.heap.size) (W : World) (l : Nat) (o o' : Obj) (hl : w.heap.size ≤ l) (h : W.heap[l]? = some o) (_ : o.isCells = false) (_ : o.isWalk = false) : KpS gs W (W.putObj l o') := fun g hg => by
  have h1 := hlt g hg
  have h2 := (Array.getElem?_eq_some_iff.1 h).1
  exact (grownBy_putObj' W l o').block g (by omega) (fun e => by cases e; omega)
theorem KpS.cell {gs : List Nat} {A B : World} (h : KpS gs A B) {g : Nat} (hg : g ∈ gs) (i : Nat) : B.cell? ⟨g, i, none⟩ = A.cell? ⟨g, i, none⟩ := World.cell?_of_block (h g hg)

theorem run_cut_lhm {P : Program} {t e : TypeId} {z : Value} {bytes : Nat} (hE : Ety P t e z bytes) (ad : Addr) (n c : Nat) (w : World) (k h m : Nat) (k1 k2 k3 : IntKind) (hk : k ≤ h) (hh : h ≤ m) (hm : m ≤ c) (hlt : k < m) :
    (Instr.slice t (.slice (some ad) n c) (some (.int k1 (k : Int))) (some (.int k2 (h : Int))) (some (.int k3 (m : Int)))).run P w = .ok (.slice (some (ad.add k)) (h - k) (m - k)) w := by
  obtain ⟨i, hi, hz, hs, hb⟩ := hE.info
  have hkm : ¬ m = k := by omega
  have hkm' : ¬ m ≤ k := by omega
  simp [Instr.slice, run_underlying hE.under, sizeOf, typeInfo, hi, hs, Instr.sliceBounds, Instr.sliceBound, asIntOf, hk, hh, hm, hkm, hkm', sliced]
set_option maxRecDepth 100000 in
set_option maxHeartbeats 2000000 in
theorem chunk1_in (n : Nat) (hn : 1 ≤ n) (l Bs Bp b K p c : Nat) (hp : 1 ≤ p ∧ p ≤ 1000) (hK : K ≤ 1000) (hc : p * K ≤ c) (hc2 : c ≤ 1000000) (J Jx : List (Fin K) → World → Prop)
    (hY : ∀ (pre : List (Fin K)) (x : Fin K) (W : World), J pre W → pre.length < K → YieldAt Fence.wide (n - 1) Try.prog l #[.slice (some ⟨b, p * x.1, none⟩) p p] W fun e W' =>
      (e = .returned (.bool true) ∧ J (pre ++ [x]) W' ∧ KpS [Bs, Bp] W W') ∨ (e = .returned (.bool false) ∧ Jx (pre ++ [x]) W'))
    (hJd : ∀ (pre : List (Fin K)) (W : World), J pre W → J pre W.drew) (W : World) (hs : W.cell? ⟨Bs, 0, none⟩ = some (.slice (some ⟨b, 0, none⟩) (p * K) c)) (hz : W.cell? ⟨Bp, 0, none⟩ = some (.int .i64 (p : Int))) (h0 : J [] W) :
    CallsIn Fence.wide n Try.prog 53 #[.func (.yield l) #[] #[], .pointer (some ⟨Bs, 0, none⟩), .pointer (some ⟨Bp, 0, none⟩)] W fun e W' => (∃ v, e = .returned v) ∧
      ((∃ ys : List (Fin K), ys.map (·.1) = List.range K ∧ J ys W') ∨ (∃ pre : List (Fin K), (∃ k, k ≤ K ∧ pre.map (·.1) = List.range k) ∧ Jx pre W')) := by
  obtain ⟨N, hN⟩ : ∃ N, N = p * K := ⟨_, rfl⟩
  rw [← hN] at hc hs
  have HY := hide hY
  clear hY
  refine callsIn_of_wp Try.func53 rfl trivial ?_ rfl
  simp only [Try.ntmps53, List.size_toArray, List.length_cons, List.length_nil, Nat.reduceAdd, Nat.reduceSub, Array.replicate_succ, Array.replicate_zero, List.push_toArray, List.append_toArray, List.nil_append, List.cons_append]
  gi_wp2
  gi_loopw [4] (fun i wr => ∃ (k : Nat) (pre : List (Fin K)), k ≤ K ∧ i = .int .i64 ((p * k : Nat) : Int) ∧ pre.map (·.1) = List.range k ∧ J pre wr ∧ KpS [Bs, Bp] W wr)
    (fun i _ => N - (intOf i).toNat)
  case atStart => exact ⟨0, [], Nat.zero_le _, by simp, rfl, h0, KpS.refl _ _⟩
  case round =>
    obtain ⟨k, pre, hk, rfl, hpre, hJ, hkp⟩ := hrel
    have e1 := (hkp.cell (g := Bs) (by simp) 0).trans hs
    have e2 := (hkp.cell (g := Bp) (by simp) 0).trans hz
    by_cases hlt : k < K
    · have hlen : pre.length = k := by have := congrArg List.length hpre; simpa using this
      obtain ⟨fn, tmps, assign, body, hy, hR⟩ := HY.out pre ⟨k, hlt⟩ wr.drew (hJd _ _ hJ) (by omega)
      obtain ⟨m, hm⟩ : ∃ m, m = p * k := ⟨_, rfl⟩
      have hmN : m + p ≤ N := by rw [hm, hN, ← Nat.mul_succ]; exact Nat.mul_le_mul_left p hlt
      have hmlt : (m : Int) < (N : Int) := by omega
      have hmle : (m : Int) ≤ (N : Int) := by omega
      have hsl : ∀ w, (Instr.slice 24 (.slice (some ⟨b, 0, none⟩) N c) (some (.int .i64 (m : Int))) none none).run Try.prog w = .ok (.slice (cutA (some ⟨b, 0, none⟩) c m) (N - m) (c - m)) w := fun w => run_cut_l etyB _ N c w m .i64 (by omega)
      have hsm : ∀ w, (Instr.slice 24 (.slice (some ⟨b, 0, none⟩) N c) (some (.int .i64 (m : Int))) (some (.int .i64 ((m + p : Nat) : Int))) (some (.int .i64 ((m + p : Nat) : Int)))).run Try.prog w = .ok (.slice (some ⟨b, m, none⟩) p p) w := fun w => by
        have := run_cut_lhm etyB ⟨b, 0, none⟩ N c w m (m + p) (m + p) .i64 .i64 .i64 (by omega) (Nat.le_refl _) (by omega) (by omega)
        rw [Addr.add_lit, Nat.zero_add, Nat.add_sub_cancel_left] at this
        exact this
      have hmin : ∀ (ts : Array TypeId) (t : TypeId) (w : World), (minK_KpS_refl ts t #[.int .i64 (p : Int), .int .i64 ((N - m : Nat) : Int)]).run Try.prog w = .ok (.int .i64 (p : Int)) w := fun ts t w => by
        rw [← minK_KpS_refl_keep, run_min_int2]
        split <;> first | rfl | (congr 2; omega)
      have hwm : IntKind.i64.wrap ((m : Int) + (p : Int)) = ((m + p : Nat) : Int) := by rw [IntKind.wrap_i64]; omega
      dsimp only at hy
      rw [← hm] at hy ⊢
      have hm' := hide hm
      have hN' := hide hN
      clear hm hN
      gi_wp2
      refine wpIn_wide.2 ?_
      refine wp_region_noPanic ?_
      refine wp_region_held_drew (S := (fun w' => w'.cell? ⟨Bs, 0, none⟩ = some (.slice (some ⟨b, 0, none⟩) N c) ∧ w'.cell? ⟨Bp, 0, none⟩ = some (.int .i64 (p : Int)))) (by kernel_rfl) ?_ (fun hHeld => ?_)
      · ((try dsimp only) <;> (first | trivial | assumption | go_keep))
      refine wpAnyH_take (i := 0) (v := ?_) (by simp only [List.getElem?_toArray, List.getElem?_cons_succ, List.getElem?_cons_zero]; rfl) (by kernel_rfl) (by kernel_rfl) (by kernel_rfl) (fun _ _ _ h => h) (Or.inl ⟨by rfl, ?_⟩) (by assumption) ?_
      rotate_left 1
      · (intro w hSw; (try dsimp only at hSw); go_simp; try with_reducible rfl)
      try simp only [Act.put, List.setIfInBounds_toArray, List.set_cons_zero, List.set_cons_succ]
      refine wpAnyH_take (i := 1) (v := ?_) (by simp only [List.getElem?_toArray, List.getElem?_cons_succ, List.getElem?_cons_zero]; rfl) (by kernel_rfl) (by kernel_rfl) (by kernel_rfl) (fun _ _ _ h => h) (Or.inl ⟨by rfl, ?_⟩) (by assumption) ?_
      rotate_left 1
      · (intro w hSw; (try dsimp only at hSw); go_simp; try with_reducible rfl)
      try simp only [Act.put, List.setIfInBounds_toArray, List.set_cons_zero, List.set_cons_succ]
      refine wpAnyH_take (i := 2) (v := ?_) (by simp only [List.getElem?_toArray, List.getElem?_cons_succ, List.getElem?_cons_zero]; rfl) (by kernel_rfl) (by kernel_rfl) (by kernel_rfl) (fun _ _ _ h => h) (Or.inl ⟨by rfl, ?_⟩) (by assumption) ?_
      rotate_left 1
      · (intro w hSw; (try dsimp only at hSw); go_simp; try with_reducible rfl)
      try simp only [Act.put, List.setIfInBounds_toArray, List.set_cons_zero, List.set_cons_succ]
      refine wpAnyH_take (i := 3) (v := ?_) (by simp only [List.getElem?_toArray, List.getElem?_cons_succ, List.getElem?_cons_zero]; rfl) (by kernel_rfl) (by kernel_rfl) (by kernel_rfl) (fun _ _ _ h => h) (Or.inl ⟨by rfl, ?_⟩) (by assumption) ?_
      rotate_left 1
      · (intro w hSw; (try dsimp only at hSw); go_simp; try with_reducible rfl)
      try simp only [Act.put, List.setIfInBounds_toArray, List.set_cons_zero, List.set_cons_succ]
      refine wpAnyH_take (i := 4) (v := ?_) (by simp only [List.getElem?_toArray, List.getElem?_cons_succ, List.getElem?_cons_zero]; rfl) (by kernel_rfl) (by kernel_rfl) (by kernel_rfl) (fun _ _ _ h => h) (Or.inl ⟨by rfl, ?_⟩) (by assumption) ?_
      rotate_left 1
      · (intro w hSw; (try dsimp only at hSw); go_simp; try with_reducible rfl)
      try simp only [Act.put, List.setIfInBounds_toArray, List.set_cons_zero, List.set_cons_succ]
      refine wpAnyH_ready (rs := [5]) (by kernel_rfl) (by simp) ?_
      refine AllReadyH.cons (by simp only [List.getElem?_toArray, List.getElem?_cons_succ, List.getElem?_cons_zero]; rfl) (fun K hK => ?_) ?_
      rotate_left 1
      · exact AllReadyH.nil
      go_simp
      refine hK.out _ _ ?_ (fun hHeld2 => ?_)
      · ((try dsimp only) <;> (first | trivial | assumption | go_keep))
      clear hHeld
      have hHeld := hHeld2
      clear hHeld2 hK K
      try simp only [Act.put, List.setIfInBounds_toArray, List.set_cons_zero, List.set_cons_succ]
      refine wpAnyH_take (i := 6) (v := ?_) (by simp only [List.getElem?_toArray, List.getElem?_cons_succ, List.getElem?_cons_zero]; rfl) (by kernel_rfl) (by kernel_rfl) (by kernel_rfl) (fun _ _ _ h => h) (Or.inl ⟨by rfl, ?_⟩) (by assumption) ?_
      rotate_left 1
      · (intro w hSw; (try dsimp only at hSw); go_simp; try with_reducible rfl)
      try simp only [Act.put, List.setIfInBounds_toArray, List.set_cons_zero, List.set_cons_succ]
      refine wpAnyH_done (by kernel_rfl) ?_ _
      refine NoPanic.normal ?_
      have hMW := hide (show m = p * k ∧ N = p * K from ⟨hm'.out, hN'.out⟩)
      have hkd : KpS [Bs, Bp] W wr.drew := fun g hg => hkp g hg
      have e1d : wr.drew.cell? ⟨Bs, 0, none⟩ = some (.slice (some ⟨b, 0, none⟩) N c) := e1
      generalize wr.drew = w2 at *
      clear hHeld e1 e2 hm' hN' hkp hJ
      gi_wp2
      refine hR.mono ?_
      rintro e W3 (⟨rfl, hJ3, hk3⟩ | ⟨rfl, hJx3⟩)
      · have hk4 := hkd.trans hk3
        have e2' := (hk4.cell (g := Bp) (by simp) 0).trans hz
        clear hk3 hsl hsm hmin
        gi_wp2
        go_roundw
        case rel => exact ⟨k + 1, pre ++ [⟨k, hlt⟩], by omega, by rw [Nat.mul_succ, ← hMW.out.1, Int.natCast_add], by rw [List.map_append, hpre, List.range_succ]; rfl, hJ3, hk4⟩
        case measure => simp [intOf]; omega
      · clear hsl hsm hmin
        gi_wp2
        refine bodyPost_ret (results_none rfl _ _ _) rfl ?_
        exact ⟨⟨_, rfl⟩, .inr ⟨pre ++ [⟨k, hlt⟩], ⟨k + 1, by omega, by rw [List.map_append, hpre, List.range_succ]; rfl⟩, hJx3⟩⟩
    · have hkK : k = K := by omega
      have hend : ¬ (((p * k : Nat) : Int) < (N : Int)) := by rw [hkK, hN]; omega
      have HPRE := hide (show pre.map (·.1) = List.range K by rw [hpre, hkK])
      clear hkK hpre
      generalize p * k = m at *
      gi_wp2
      go_end0
      exact ⟨⟨_, rfl⟩, .inl ⟨pre, HPRE.out, hJ⟩⟩
set_option maxHeartbeats 1000000 in
/-- The iterator's maker. -/
theorem chunk_any (A : Option Addr) (n c : Nat) (p : Nat) (hp : 1 ≤ p) (w : World) : Calls Try.prog 36 #[.slice A n c, .int .i64 (p : Int)] w fun e w' => e = .returned (.func (.func 53) #[] #[.pointer (some ⟨w.heap.size, 0, none⟩), .pointer (some ⟨w.heap.size + 1, 0, none⟩)]) ∧ w' = (w.alloc (.cells #[.slice A n c] 24)).alloc (.cells #[.int .i64 (p : Int)] 3) := by
  have hp' : ¬ (p : Int) < 1 := by omega
  go_enter Try.func36, Try.ntmps36
  go_wp2_with fail
  go_ret
  exact ⟨rfl, rfl⟩
/-- It hands out K pieces of p bytes each. -/
theorem chunk_stops (n : Nat) (hn : 1 ≤ n) (Bs Bp b K p c : Nat) (hp : 1 ≤ p ∧ p ≤ 1000) (hK : K ≤ 1000) (hc : p * K ≤ c) (hc2 : c ≤ 1000000) (w : World) (hBs : Bs < w.heap.size) (hBp : Bp < w.heap.size)
    (hs : w.cell? ⟨Bs, 0, none⟩ = some (.slice (some ⟨b, 0, none⟩) (p * K) c)) (hz : w.cell? ⟨Bp, 0, none⟩ = some (.int .i64 (p : Int))) :
    SeqStopsK Fence.wide n Try.prog 53 #[.pointer (some ⟨Bs, 0, none⟩), .pointer (some ⟨Bp, 0, none⟩)] (fun x : Fin K => #[.slice (some ⟨b, p * x.1, none⟩) p p]) (KpS [Bs, Bp])
      (fun ys => ys.map (·.1) = List.range K) (fun pre => ∃ k, k ≤ K ∧ pre.map (·.1) = List.range k) K w := fun l J Jx W hW hJ hJx hY h0 => by
  have h1 := (hW.cell (p := ⟨Bs, 0, none⟩) hBs).trans hs
  have h2 := (hW.cell (p := ⟨Bp, 0, none⟩) hBp).trans hz
  exact chunk1_in n hn l Bs Bp b K p c hp hK hc hc2 J Jx hY (fun pre W1 h => hJ pre W1 W1.drew none h ⟨rfl, rfl, rfl, Nat.le_refl _, fun _ _ _ => rfl⟩ (by simp)) W h1 h2 h0
end Go.Proofs.Ytfaingklglelnaa
