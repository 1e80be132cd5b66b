/- slices.Chunk of map entries: the iterator's contract. -/
import Derived.Test.YtbmblofhogihdaaMtW
import Derived.RangeFuncNested
import Derived.RangeFuncBound
import Derived.RangeFuncBox
import Derived.RangeFuncLeaves
import Derived.Shelf.Abstract
import Derived.Shelf.RegionOpen
import Derived.WalkKit
import Derived.OwnWalkIn
import Derived.TacticsInMore
import Derived.LoopNIn
import Derived.LoopIn
import Derived.Deep.RegionHeld3
import Derived.Deep.MidRow
import Derived.Test.YtbmblofhogihdaaTk
namespace Go.Proofs.Ytbmblofhogihdaa
open Go.RowKit Go.Shelf
set_option maxRecDepth 100000
attribute [local go_sem] Oper.semAt_some
/-- The lesser of two, kept whole in a walk. -/
def lessI (y x : Int) : Int := if y < x then y else x
theorem run_min_keep (P : Program) (w : World) (ts : Array TypeId) (t : TypeId) (k k' : IntKind) (x y : Int) : (Builtin.min_ ts t #[.int k x, .int k' y]).run P w = .ok (.int k (lessI y x)) w := run_min_int2 w ts t k k' x y
attribute [local go_sem ↓] run_min_keep

/-- These blocks stay. -/
def KpS (gs : List Nat) (A B : World) : Prop := ∀ g ∈ gs, B.heap[g]? = A.heap[g]?
theorem KpS.refl (gs : List Nat) (A : World) : KpS gs A A := fun _ _ => rfl
theorem KpS.trans {gs : List Nat} {A B C : World} (h : KpS gs A B) (k : KpS gs B C) : KpS gs A C := fun g hg => (k g hg).trans (h g hg)
theorem KpS.put {gs : List Nat} {w : World} (hlt : ∀ g ∈ gs, g < w.heap.size) (W : World) (l : Nat) (o o' : Obj) (hl : w.heap.size ≤ l) (h : W.heap[l]? = some o) (_ : o.isCells = false) (_ : o.isWalk = false) : KpS gs W (W.putObj l o') := fun g hg => by
  have h1 := hlt g hg
  have h2 := (Array.getElem?_eq_some_iff.1 h).1
  exact (grownBy_putObj' W l o').block g (by omega) (fun e => by cases e; omega)
theorem KpS.cell {gs : List Nat} {A B : World} (h : KpS gs A B) {g : Nat} (hg : g ∈ gs) (i : Nat) : B.cell? ⟨g, i, none⟩ = A.cell? ⟨g, i, none⟩ := World.cell?_of_block (h g hg)

theorem infE : (Try.prog.info? 59).map (fun i => (i.zero, i.size, i.bytes)) = some (some (.agg #[.int .i64 0, .int .i64 0]), 2, 16) := by kernel_rfl
theorem run_cutE_l (ad : Addr) (n c : Nat) (w : World) (k : Nat) (k1 : IntKind) (hk : k ≤ n) (hn : n ≤ c) (hlt : k < c) :
    (Instr.slice 53 (.slice (some ad) n c) (some (.int k1 (k : Int))) none none).run Try.prog w = .ok (.slice (some (ad.add (k * 2))) (n - k) (c - k)) w := by
  obtain ⟨i, hi, hz, hs, hb⟩ := info_parts infE
  have hkm : ¬ c = k := by omega
  have hkm' : ¬ c ≤ k := by omega
  have hkm2 : ¬ n < k := by omega
  simp [Instr.slice, run_underlying Try.underlying53, sizeOf, typeInfo, hi, hs, Instr.sliceBounds, Instr.sliceBound, asIntOf, hk, hn, hkm, hkm', hkm2, sliced]
theorem run_cutE_lhm (ad : Addr) (n c : Nat) (w : World) (k h m : Nat) (k1 k2 k3 : IntKind) (hk : k ≤ h) (hh : h ≤ m) (hm : m ≤ c) (hlt : k < m) :
    (Instr.slice 53 (.slice (some ad) n c) (some (.int k1 (k : Int))) (some (.int k2 (h : Int))) (some (.int k3 (m : Int)))).run Try.prog w = .ok (.slice (some (ad.add (k * 2))) (h - k) (m - k)) w := by
  obtain ⟨i, hi, hz, hs, hb⟩ := info_parts infE
  have hkm : ¬ m = k := by omega
  have hkm' : ¬ m ≤ k := by omega
  simp [Instr.slice, run_underlying Try.underlying53, sizeOf, typeInfo, hi, hs, Instr.sliceBounds, Instr.sliceBound, asIntOf, hk, hh, hm, hkm, hkm', sliced]
/-- How many entries piece x has. -/
def pcL (N x : Nat) : Nat := if 8 * x + 8 ≤ N then 8 else N - 8 * x
def pcV (b N x : Nat) : Value := .slice (some ⟨b, 8 * x * 2, none⟩) (pcL N x) (pcL N x)
theorem pcL_bd {N K k : Nat} (hK : 8 * K < N + 8) (hk : k < K) : 1 ≤ pcL N k ∧ pcL N k ≤ 8 ∧ 8 * k + pcL N k ≤ N := by
  unfold pcL
  split <;> omega
set_option maxHeartbeats 2000000 in
theorem chunkE_in (n : Nat) (hn : 1 ≤ n) (l Bs Bp b N K p : Nat) (hp : p = 8) (hN : N ≤ 1000) (hK : N ≤ 8 * K ∧ 8 * K < N + 8) (J Jx : List (Fin K) → World → Prop)
    (hY : ∀ (pre : List (Fin K)) (x : Fin K) (W : World), J pre W → pre.length < K → YieldAt Fence.wide (n - 1) Try.prog l #[pcV b N x.1] W fun e W' =>
      (e = .returned (.bool true) ∧ J (pre ++ [x]) W' ∧ KpS [Bs, Bp] W W') ∨ (e = .returned (.bool false) ∧ Jx (pre ++ [x]) W'))
    (hJd : ∀ (pre : List (Fin K)) (W : World), J pre W → J pre W.drew) (W : World) (hs : W.cell? ⟨Bs, 0, none⟩ = some (.slice (some ⟨b, 0, none⟩) N N)) (hz : W.cell? ⟨Bp, 0, none⟩ = some (.int .i64 (p : Int))) (h0 : J [] W) :
    CallsIn Fence.wide n Try.prog 41 #[.func (.yield l) #[] #[], .pointer (some ⟨Bs, 0, none⟩), .pointer (some ⟨Bp, 0, none⟩)] W fun e W' => (∃ v, e = .returned v) ∧
      ((∃ ys : List (Fin K), ys.map (·.1) = List.range K ∧ J ys W') ∨ (∃ pre : List (Fin K), (∃ k, k ≤ K ∧ pre.map (·.1) = List.range k) ∧ Jx pre W')) := by
  have HY := hide hY
  have HK := hide hK
  have HP := hide hp
  have hp1 : 1 ≤ p ∧ p ≤ 1000 := by omega
  clear hY hK hp
  refine callsIn_of_wp Try.func41 rfl trivial ?_ rfl
  simp only [Try.ntmps41, List.size_toArray, List.length_cons, List.length_nil, Nat.reduceAdd, Nat.reduceSub, Array.replicate_succ, Array.replicate_zero, List.push_toArray, List.append_toArray, List.nil_append, List.cons_append]
  gi_wp2
  gi_loopw [4] (fun i wr => ∃ (k m : Nat) (pre : List (Fin K)), k ≤ K ∧ m = 8 * k ∧ i = .int .i64 (m : Int) ∧ pre.map (·.1) = List.range k ∧ J pre wr ∧ KpS [Bs, Bp] W wr)
    (fun i _ => N + 8 - (intOf i).toNat)
  case atStart => exact ⟨0, 0, [], Nat.zero_le _, rfl, rfl, rfl, h0, KpS.refl _ _⟩
  case round =>
    obtain ⟨k, m, pre, hk, hm, rfl, hpre, hJ, hkp⟩ := hrel
    have e1 := (hkp.cell (g := Bs) (by simp) 0).trans hs
    have e2 := (hkp.cell (g := Bp) (by simp) 0).trans hz
    by_cases hlt : k < K
    · have hlen : pre.length = k := by have := congrArg List.length hpre; simpa using this
      obtain ⟨fn, tmps, assign, body, hy, hR⟩ := HY.out pre ⟨k, hlt⟩ wr.drew (hJd _ _ hJ) (by omega)
      obtain ⟨h, hh⟩ : ∃ h, h = pcL N k := ⟨_, rfl⟩
      obtain ⟨hb1, hb2, hb3⟩ := pcL_bd HK.out.2 hlt
      rw [← hh, ← hm] at hb3
      rw [← hh] at hb1 hb2
      have hmlt : (m : Int) < (N : Int) := by omega
      have hmle : (m : Int) ≤ (N : Int) := by omega
      have hsl : ∀ w, (Instr.slice 53 (.slice (some ⟨b, 0, none⟩) N N) (some (.int .i64 (m : Int))) none none).run Try.prog w = .ok (.slice (some (Addr.add ⟨b, 0, none⟩ (m * 2))) (N - m) (N - m)) w := fun w => run_cutE_l _ N N w m .i64 (by omega) (Nat.le_refl _) (by omega)
      obtain ⟨q, hq⟩ : ∃ q, q = m + h := ⟨_, rfl⟩
      have hsm : ∀ w, (Instr.slice 53 (.slice (some ⟨b, 0, none⟩) N N) (some (.int .i64 (m : Int))) (some (.int .i64 (q : Int))) (some (.int .i64 (q : Int)))).run Try.prog w = .ok (pcV b N k) w := fun w => by
        have := run_cutE_lhm ⟨b, 0, none⟩ N N w m q q .i64 .i64 .i64 (by omega) (Nat.le_refl _) (by omega) (by omega)
        rw [Addr.add_lit, Nat.zero_add, show q - m = pcL N k by omega] at this
        rw [this, pcV, ← hm]
      have hmin : lessI ((N - m : Nat) : Int) (p : Int) = (h : Int) := by
        have hp := HP.out
        unfold pcL at hh
        unfold lessI
        split <;> (split at hh <;> omega)
      have hwm : IntKind.i64.wrap ((m : Int) + (h : Int)) = (q : Int) := by rw [IntKind.wrap_i64]; omega
      dsimp only at hy
      have HM := hide hm
      have HH := hide hh
      have HB := hide (And.intro hb1 hb3)
      clear hm hh hb1 hb3 hb2 hq
      gi_wp2
      refine wpIn_wide.2 ?_
      refine wp_region_noPanic ?_
      refine wp_region_held_drew (S := (fun w' => w'.cell? ⟨Bs, 0, none⟩ = some (.slice (some ⟨b, 0, none⟩) N N) ∧ w'.cell? ⟨Bp, 0, none⟩ = some (.int .i64 (p : Int)))) (by kernel_rfl) ?_ (fun hHeld => ?_)
      · ((try dsimp only) <;> (first | trivial | assumption | go_keep))
      refine tk 0 ?_
      refine tk 1 ?_
      refine tk 2 ?_
      refine tk 3 ?_
      refine tk 4 ?_
      refine wpAnyH_ready (rs := [5]) (by kernel_rfl) (by simp) ?_
      refine AllReadyH.cons (by simp only [List.getElem?_toArray, List.getElem?_cons_succ, List.getElem?_cons_zero]; rfl) (fun K hK => ?_) ?_
      rotate_left 1
      · exact AllReadyH.nil
      go_simp
      refine hK.out _ _ ?_ (fun hHeld2 => ?_)
      · ((try dsimp only) <;> (first | trivial | assumption | go_keep))
      clear hHeld
      have hHeld := hHeld2
      clear hHeld2 hK K
      try simp only [Act.put, List.setIfInBounds_toArray, List.set_cons_zero, List.set_cons_succ]
      refine tk 6 ?_
      refine wpAnyH_done (by kernel_rfl) ?_ _
      refine NoPanic.normal ?_
      have hkd : KpS [Bs, Bp] W wr.drew := fun g hg => hkp g hg
      have e1d : wr.drew.cell? ⟨Bs, 0, none⟩ = some (.slice (some ⟨b, 0, none⟩) N N) := e1
      generalize wr.drew = w2 at *
      clear hHeld e1 e2 hkp hJ
      gi_wp2
      refine hR.mono ?_
      rintro e W3 (⟨rfl, hJ3, hk3⟩ | ⟨rfl, hJx3⟩)
      · have hk4 := hkd.trans hk3
        have e2' := (hk4.cell (g := Bp) (by simp) 0).trans hz
        clear hk3 hsl hsm hmin
        gi_wp2
        go_roundw
        case rel => exact ⟨k + 1, m + p, pre ++ [⟨k, hlt⟩], by omega, by rw [HM.out, HP.out]; omega, by rw [Int.natCast_add], by rw [List.map_append, hpre, List.range_succ]; rfl, hJ3, hk4⟩
        case measure => simp [intOf]; omega
      · clear hsl hsm hmin
        gi_wp2
        refine bodyPost_ret (results_none rfl _ _ _) rfl ?_
        exact ⟨⟨_, rfl⟩, .inr ⟨pre ++ [⟨k, hlt⟩], ⟨k + 1, by omega, by rw [List.map_append, hpre, List.range_succ]; rfl⟩, hJx3⟩⟩
    · have hkK : k = K := by omega
      have hend : ¬ ((m : Int) < (N : Int)) := by have := HK.out; omega
      have HPRE := hide (show pre.map (·.1) = List.range K by rw [hpre, hkK])
      clear hkK hpre hm
      gi_wp2
      go_end0
      exact ⟨⟨_, rfl⟩, .inl ⟨pre, HPRE.out, hJ⟩⟩
set_option maxHeartbeats 1000000 in
/-- The iterator's maker. -/
theorem chunkE_any (A : Option Addr) (n c : Nat) (w : World) : Calls Try.prog 38 #[.slice A n c, .int .i64 8] w fun e w' => e = .returned (.func (.func 41) #[] #[.pointer (some ⟨w.heap.size, 0, none⟩), .pointer (some ⟨w.heap.size + 1, 0, none⟩)]) ∧ w' = (w.alloc (.cells #[.slice A n c] 53)).alloc (.cells #[.int .i64 8] 3) := by
  go_enter Try.func38, Try.ntmps38
  go_wp2_with fail
  go_ret
  exact ⟨rfl, rfl⟩
/-- It hands out the pieces. -/
theorem chunkE_stops (n : Nat) (hn : 1 ≤ n) (Bs Bp b N K : Nat) (hN : N ≤ 1000) (hK : N ≤ 8 * K ∧ 8 * K < N + 8) (w : World) (hBs : Bs < w.heap.size) (hBp : Bp < w.heap.size)
    (hs : w.cell? ⟨Bs, 0, none⟩ = some (.slice (some ⟨b, 0, none⟩) N N)) (hz : w.cell? ⟨Bp, 0, none⟩ = some (.int .i64 8)) :
    SeqStopsK Fence.wide n Try.prog 41 #[.pointer (some ⟨Bs, 0, none⟩), .pointer (some ⟨Bp, 0, none⟩)] (fun x : Fin K => #[pcV b N x.1]) (KpS [Bs, Bp])
      (fun ys => ys.map (·.1) = List.range K) (fun pre => ∃ k, k ≤ K ∧ pre.map (·.1) = List.range k) K w := fun l J Jx W hW hJ hJx hY h0 => by
  have h1 := (hW.cell (p := ⟨Bs, 0, none⟩) hBs).trans hs
  have h2 := (hW.cell (p := ⟨Bp, 0, none⟩) hBp).trans hz
  exact chunkE_in n hn l Bs Bp b N K 8 rfl hN hK J Jx hY (fun pre W1 h => hJ pre W1 W1.drew none h ⟨rfl, rfl, rfl, Nat.le_refl _, fun _ _ _ => rfl⟩ (by simp)) W h1 h2 h0
end Go.Proofs.Ytbmblofhogihdaa
