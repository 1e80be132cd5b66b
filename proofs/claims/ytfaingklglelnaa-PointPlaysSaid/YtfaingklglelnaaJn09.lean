import Derived.Test.YtfaingklglelnaaJn06
import Derived.Test.YtfaingklglelnaaJn08
import Derived.Test.YtfaingklglelnaaProg
import Derived.Test.YtfaingklglelnaaJn01
import Derived.Deep.QuietTactic
import Derived.BigQuiet
import Derived.StillTailTactics
/- The walk over point.Encode (printed by gen_ptenc.py). -/
namespace Go.Proofs.Ytfaingklglelnaa
open Go.RowKit Go.Shelf
attribute [local go_sem] Oper.semAt_some

theorem wpListIn_app {F : Fence} {nF : Nat} {P : Program} {ops : Array Oper} {rest : List Oper} {o : Oper} {a : Act} {w : World} {Q : Exit → Act → World → Prop} (hgd : o.guard = none) (s x : Operand) (t : TypeId)
    (ho : o.op = .call { callee := .builtin .append, args := #[s, x], argTypes := #[t, t] })
    {e : TypeId} {z : Value} {bytes : Nat} (hE : Ety P t e z bytes) (base : Nat) (v : Value) (n : Nat) (xs : List Value) (hs : a.eval s = v) (hown : w.ownsRow base e 1 v n xs)
    (B : Nat) (A : Option Addr) (m c : Nat) (news : List Value) (hx : a.eval x = .slice A m c) (hr : Sl w B A m news) (h1 : ∀ u ∈ news, u.oneCell' = true)
    (hb : (n + m) * bytes ≤ 140737488355328) (hbase : base ≤ w.heap.size)
    (hK : ∀ A' c' w', w'.ownsRow base e 1 (.slice A' (n + m) c') (n + m) (xs ++ news) → w.grownBy w' v.ownBlock → ((Value.slice A' (n + m) c').ownBlock = v.ownBlock ∨ (Value.slice A' (n + m) c').ownBlock = some w.heap.size) → wpListIn F nF P ops Q rest (a.put o.dst (.slice A' (n + m) c')) w') :
    wpListIn F nF P ops Q (o :: rest) a w := by
  refine wpListIn_plain hgd fun K hK' => ?_
  obtain ⟨A', c', w', hrun, r1, r2, r3⟩ := run_app (P := P) w (ty := o.type) hE base v n xs hown B A m c news hr h1 hb hbase
  unfold Oper.wpIn
  refine ⟨?_, ?_⟩
  · simp [Oper.about, ho, resolve, Target.leads, Sem.run_pure]
  · rw [Oper.semAt_plain F _ _ (by rw [ho]; intro c hc'; cases hc')]
    simp [execOp, ho, resolve, invoke, builtin, hs, hx, hrun, Result.andThen]
    exact hK' _ _ (hK A' c' w' r1 r2 r3)
/-- What the loop has written when these have come. -/
def secs (e c n f : Nat) : List (Fin 4) → List UInt8 := fun pre => (pre.zipIdx).flatMap fun p => ptHead e c p.2 ++ ((ptW n f).drop (11 * p.1.1)).take 11
theorem secs_snoc (e c n f : Nat) (pre : List (Fin 4)) (x : Fin 4) : secs e c n f (pre ++ [x]) = secs e c n f pre ++ (ptHead e c pre.length ++ ((ptW n f).drop (11 * x.1)).take 11) := by
  simp [secs, List.zipIdx_append]
theorem secs_length (e c n f : Nat) : ∀ pre : List (Fin 4), (secs e c n f pre).length = 16 * pre.length := by
  intro pre
  unfold secs
  rw [List.length_flatMap]
  have : ∀ p ∈ pre.zipIdx, (ptHead e c p.2 ++ ((ptW n f).drop (11 * p.1.1)).take 11).length = 16 := fun p _ => by
    have := p.1.2
    rw [List.length_append, ptHead_length, List.length_take, List.length_drop, ptW_length]
    omega
  rw [List.map_congr_left (g := fun _ => 16) this, List.map_const', List.sum_replicate_nat, List.length_zipIdx, Nat.mul_comm]
theorem secs_all (e c n f : Nat) {pre : List (Fin 4)} (h : pre.map (·.1) = List.range 4) : secs e c n f pre = ptBytes e c n f := by
  have hp : pre = [0, 1, 2, 3] := by
    have hl : pre.length = 4 := by have := congrArg List.length h; simpa using this
    match pre, hl with
    | [a, b, c, d], _ =>
      simp only [List.map_cons, List.map_nil, List.range_succ, List.range_zero, List.nil_append, List.cons_append, List.cons.injEq, and_true] at h
      obtain ⟨h0, h1, h2, h3⟩ := h
      simp only [List.cons.injEq, and_true]
      exact ⟨Fin.ext h0, Fin.ext h1, Fin.ext h2, Fin.ext h3⟩
  subst hp
  simp [secs, ptBytes, ptUp, ptSec, List.range_succ, List.zipIdx]
  rw [show ((3 : Fin 4) : Nat) = 3 from rfl]
/-- What the loop of Encode holds: the boxes, the row that grows. -/
structure EncI (w w5 W0 W : World) (g1 g5 g6 s4 : Nat) (c1 c5 : Array Value) (A : Option Addr) (k m : Nat) (xs : List UInt8) : Prop where
  h6 : Blk W g6 24 #[.slice A m k]
  r : W.ownsRow w5.heap.size 5 1 (.slice A m k) m (u8s xs)
  h1 : Blk W g1 23 c1
  h5 : Blk W g5 81 c5
  b : Below w.heap.size w W
  s : w5.heap.size ≤ W.heap.size
  ko : KeepsOthers W0 W
  kp : KpS [s4, s4 + 1] W0 W
theorem EncI.next {w w5 W0 W W1 W2 : World} {g1 g5 g6 s4 k m k2 j : Nat} {c1 c5 : Array Value} {A A2 : Option Addr} {xs ys : List UInt8} (h : EncI w w5 W0 W g1 g5 g6 s4 c1 c5 A k m xs)
    (hlt : g1 < w5.heap.size ∧ g5 < w5.heap.size ∧ g6 < w5.heap.size ∧ s4 + 1 < w5.heap.size) (hne : g6 ≠ g1 ∧ g6 ≠ g5 ∧ g6 < s4) (hw : w.heap.size ≤ g6) (hb1 : Below W.heap.size W W1) (ho : KeepsOthers W W1)
    (hr2 : W2.ownsRow w5.heap.size 5 1 (.slice A2 (m + j) k2) (m + j) (u8s xs ++ u8s ys)) (hg2 : W1.grownBy W2 (Value.slice A m k).ownBlock) :
    EncI w w5 W0 (W2.setCell ⟨g6, 0, none⟩ (.slice A2 (m + j) k2)) g1 g5 g6 s4 c1 c5 A2 k2 (m + j) (xs ++ ys) := by
  obtain ⟨l1, l5, l6, ls⟩ := hlt
  have r1 := own_bel h.r hb1
  have lr : ∀ g, (Value.slice A m k).ownBlock = some g → w5.heap.size ≤ g := fun g hg => (h.r.lt g hg).1
  have hs1 := Nat.le_trans h.s hb1.size
  have lr2 : ∀ g, (Value.slice A2 (m + j) k2).ownBlock = some g → w5.heap.size ≤ g := fun g hg => (hr2.lt g hg).1
  have hsz := World.size_setCell W2 ⟨g6, 0, none⟩ (.slice A2 (m + j) k2)
  refine ⟨?_, ?_, ?_, ?_, ?_, ?_, ?_, ?_⟩
  · have := (blk_gr (h.h6.below hb1) hg2 (fun e => by have := lr g6 e.symm; omega)).set 0 (.slice A2 (m + j) k2)
    simpa using this
  · rw [u8s_append]
    exact own_kq hr2 ((Kp.refl [g6] W2).set (p := ⟨g6, 0, none⟩) (.inl (by simp)) _) (fun g hg => by have := lr2 g hg; simp; omega)
  · exact (blk_gr (h.h1.below hb1) hg2 (fun e => by have := lr g1 e.symm; omega)).far (p := ⟨g6, 0, none⟩) (fun e => hne.1 e.symm) _
  · exact (blk_gr (h.h5.below hb1) hg2 (fun e => by have := lr g5 e.symm; omega)).far (p := ⟨g6, 0, none⟩) (fun e => hne.2.1 e.symm) _
  · have hb2 := bel_gr (h.b.trans (hb1.mono h.b.size)) hg2 (fun g e => by have := lr g e; omega) (Nat.le_trans h.b.size hb1.size)
    exact hb2.setCell (p := ⟨g6, 0, none⟩) hw _
  · rw [hsz]; exact Nat.le_trans hs1 hg2.size
  · refine ((h.ko.trans ho).trans (KeepsOthers.of_grownBy hg2 (fun g o e hg => ?_))).trans (KeepsOthers.setCell _ _ _)
    rcases r1.2 with ⟨hv, -⟩ | ⟨g', cap, cur, hv, -, hB', -⟩
    · rw [hv] at e; cases e
    · rw [hv] at e
      simp only [Value.ownBlock, Option.some.injEq] at e
      subst e
      have h6 : some o = some (Obj.cells cur 5) := hg.symm.trans hB'
      injection h6 with h6
      subst h6
      rfl
  · refine h.kp.trans (fun g hg => ?_)
    have hgl : g < w5.heap.size ∧ g ≠ g6 := by
      simp only [List.mem_cons, List.not_mem_nil, or_false] at hg
      omega
    rw [((Kp.refl [g6] W2).set (p := ⟨g6, 0, none⟩) (.inl (by simp)) (.slice A2 (m + j) k2)).block g (Nat.lt_of_lt_of_le hgl.1 (Nat.le_trans hs1 hg2.size)) (by simp; exact hgl.2)]
    rw [hg2.block g (Nat.lt_of_lt_of_le hgl.1 hs1) (fun e => by have := lr g e.symm; omega)]
    exact hb1.block g (Nat.lt_of_lt_of_le hgl.1 h.s)
theorem sl_new (w : World) (l : List Value) (t : TypeId) : Sl (w.alloc (.cells l.toArray t)) (w.heap.size + 1) (some ⟨w.heap.size, 0, none⟩) l.length l := by
  refine ⟨rfl, fun i u hu => ⟨_, rfl, by simp, ?_⟩⟩
  rw [Addr.add_mid, Nat.zero_add, (Blk.new w _ _).cell]
  simpa using hu
theorem sl_blk {w : World} {g i m : Nat} {t : TypeId} {l : List Value} (h : Blk w g t l.toArray) (hm : i + m ≤ l.length) : Sl w (g + 1) (some ⟨g, i, none⟩) m ((l.drop i).take m) := by
  refine ⟨by rw [List.length_take, List.length_drop]; omega, fun j u hu => ⟨_, rfl, Nat.lt_succ_self _, ?_⟩⟩
  rw [Addr.add_mid, h.cell]
  rw [List.getElem?_take] at hu
  split at hu
  · rw [List.getElem?_drop] at hu
    simpa using hu
  · cases hu
theorem ptHead_cells (e c s : Nat) (he : e < 65536) (hc : c < 65536) (hs : s < 256) : u8s (ptHead e c s) = [.int .u8 ((e : Int) % 256), .int .u8 ((e : Int) / 256), .int .u8 ((c : Int) % 256), .int .u8 ((c : Int) / 256), .int .u8 (s : Int)] := by
  simp only [ptHead, leN_two, u8s, List.map_append, List.map_cons, List.map_nil, List.cons_append, List.nil_append, UInt8.toNat_ofNat']
  simp only [List.cons.injEq, Value.int.injEq, true_and, and_true]
  refine ⟨?_, ?_, ?_, ?_, ?_⟩ <;> omega
theorem enc_no (e c n f : Int) (w : World) (h : ¬ PtP e c n f) : Calls Try.prog 10 #[ptV e c n f] w fun r w' => r = .returned (.tuple #[.slice none 0 0, .int .i64 22]) ∧ Below w.heap.size w w' := by
  have HV : Hid (ckV e c n f = 22) := hide (if_neg h)
  clear h
  go_enter Try.func10, Try.ntmps10
  go_wp2_with fail
  refine (check_any e c n f _).mono ?_
  rintro r w1 ⟨rfl, hb1⟩
  rw [HV.out]
  have B1 := hide (((Below.refl w.heap.size w).alloc (Nat.le_refl _) (.cells #[.int .i64 e, .int .i64 c, .int .i64 n, .int .i64 f] 23)).trans (hb1.mono (by simp)))
  clear hb1
  go_wp2_with fail
  go_ret2
  exact ⟨rfl, B1.out⟩
set_option maxRecDepth 100000 in
set_option maxHeartbeats 4000000 in
theorem enc_yes (e c n f : Nat) (w : World) (h : PtP e c n f) : Calls Try.prog 10 #[ptV e c n f] w fun r w' => ∃ A k, r = .returned (.tuple #[.slice A 64 k, .int .i64 0]) ∧ w'.ownsRow w.heap.size 5 1 (.slice A 64 k) 64 (u8s (ptBytes e c n f)) ∧ Below w.heap.size w w' := by
  have HV : Hid (ckV e c n f = 0) := hide (if_pos h)
  have hbd : e < 65536 ∧ c < 65536 ∧ n < 4096 ∧ f < 4096 := by unfold PtP at h; omega
  obtain ⟨he, hc, hn, hf⟩ := hbd
  clear h
  refine (callsIn_wide (n := 8)).1 ?_
  refine callsIn_of_wp_marks Try.func10 rfl trivial ?_ rfl
  simp only [Try.ntmps10, List.size_toArray, List.length_cons, List.length_nil, Nat.reduceAdd, Nat.reduceSub, Array.replicate_succ, Array.replicate_zero, List.push_toArray, List.append_toArray, List.nil_append, List.cons_append]
  refine wpIn_wide.2 ?_
  go_wp2_with fail
  have K1 := hide (Blk.new w 23 #[.int .i64 (e : Int), .int .i64 (c : Int), .int .i64 (n : Int), .int .i64 (f : Int)])
  have B1 := hide ((Below.refl w.heap.size w).alloc (Nat.le_refl _) (.cells #[.int .i64 (e : Int), .int .i64 (c : Int), .int .i64 (n : Int), .int .i64 (f : Int)] 23))
  obtain ⟨g1, hg1⟩ : ∃ g1, g1 = w.heap.size := ⟨_, rfl⟩
  have HG1 := hide hg1
  rw [← hg1] at K1 ⊢
  clear hg1
  generalize w.alloc (.cells #[.int .i64 (e : Int), .int .i64 (c : Int), .int .i64 (n : Int), .int .i64 (f : Int)] 23) = w1 at *
  refine (check_any e c n f _).mono ?_
  rintro r w2 ⟨rfl, hb2⟩
  rw [HV.out]
  have K2 := hide (K1.out.below hb2)
  have B2 := hide (B1.out.trans (hb2.mono B1.out.size))
  clear hb2 K1 B1
  go_wp2_with fail
  have kk : ∀ w' : World, Below w2.heap.size w2 w' → w'.cell? ⟨g1, 0, none⟩ = some (.int .i64 (e : Int)) ∧ w'.cell? ⟨g1, 1, none⟩ = some (.int .i64 (c : Int)) ∧ w'.cell? ⟨g1, 2, none⟩ = some (.int .i64 (n : Int)) ∧ w'.cell? ⟨g1, 3, none⟩ = some (.int .i64 (f : Int)) := fun w' hb => ⟨(K2.out.below hb).cell 0, (K2.out.below hb).cell 1, (K2.out.below hb).cell 2, (K2.out.below hb).cell 3⟩
  have KK := hide kk
  clear kk
  refine wp_region_noPanic ?_
  refine wp_region_held_drew (S := fun w' => w'.cell? ⟨g1, 0, none⟩ = some (.int .i64 (e : Int)) ∧ w'.cell? ⟨g1, 1, none⟩ = some (.int .i64 (c : Int)) ∧ w'.cell? ⟨g1, 2, none⟩ = some (.int .i64 (n : Int)) ∧ w'.cell? ⟨g1, 3, none⟩ = some (.int .i64 (f : Int))) (by kernel_rfl) ?_ (fun hHeld => ?_)
  · exact KK.out _ ((Below.refl _ w2).alloc (Nat.le_refl _) _).drew
  refine wpAnyH_take (i := 0) (v := ?_) (by simp only [List.getElem?_toArray, List.getElem?_cons_succ, List.getElem?_cons_zero]; rfl) (by kernel_rfl) (by kernel_rfl) (by kernel_rfl) (fun _ _ _ h => h) (Or.inl ⟨by rfl, ?_⟩) (by assumption) ?_
  rotate_left 1
  · (intro w hSw; (try dsimp only at hSw); go_simp; try with_reducible rfl)
  try simp only [Act.put, List.setIfInBounds_toArray, List.set_cons_zero, List.set_cons_succ]
  refine wpAnyH_take (i := 1) (v := ?_) (by simp only [List.getElem?_toArray, List.getElem?_cons_succ, List.getElem?_cons_zero]; rfl) (by kernel_rfl) (by kernel_rfl) (by kernel_rfl) (fun _ _ _ h => h) (Or.inl ⟨by rfl, ?_⟩) (by assumption) ?_
  rotate_left 1
  · (intro w hSw; (try dsimp only at hSw); go_simp; try with_reducible rfl)
  try simp only [Act.put, List.setIfInBounds_toArray, List.set_cons_zero, List.set_cons_succ]
  refine wpAnyH_take (i := 2) (v := ?_) (by simp only [List.getElem?_toArray, List.getElem?_cons_succ, List.getElem?_cons_zero]; rfl) (by kernel_rfl) (by kernel_rfl) (by kernel_rfl) (fun _ _ _ h => h) (Or.inl ⟨by rfl, ?_⟩) (by assumption) ?_
  rotate_left 1
  · (intro w hSw; (try dsimp only at hSw); go_simp; try with_reducible rfl)
  try simp only [Act.put, List.setIfInBounds_toArray, List.set_cons_zero, List.set_cons_succ]
  refine wpAnyH_take (i := 3) (v := ?_) (by simp only [List.getElem?_toArray, List.getElem?_cons_succ, List.getElem?_cons_zero]; rfl) (by kernel_rfl) (by kernel_rfl) (by kernel_rfl) (fun _ _ _ h => h) (Or.inl ⟨by rfl, ?_⟩) (by assumption) ?_
  rotate_left 1
  · (intro w hSw; (try dsimp only at hSw); go_simp; try with_reducible rfl)
  try simp only [Act.put, List.setIfInBounds_toArray, List.set_cons_zero, List.set_cons_succ]
  refine wpAnyH_take (i := 4) (v := ?_) (by simp only [List.getElem?_toArray, List.getElem?_cons_succ, List.getElem?_cons_zero]; rfl) (by kernel_rfl) (by kernel_rfl) (by kernel_rfl) (fun _ _ _ h => h) (Or.inl ⟨by rfl, ?_⟩) (by assumption) ?_
  rotate_left 1
  · (intro w hSw; (try dsimp only at hSw); go_simp; try with_reducible rfl)
  try simp only [Act.put, List.setIfInBounds_toArray, List.set_cons_zero, List.set_cons_succ]
  refine wpAnyH_take (i := 5) (v := ?_) (by simp only [List.getElem?_toArray, List.getElem?_cons_succ, List.getElem?_cons_zero]; rfl) (by kernel_rfl) (by kernel_rfl) (by kernel_rfl) (fun _ _ _ h => h) (Or.inl ⟨by rfl, ?_⟩) (by assumption) ?_
  rotate_left 1
  · (intro w hSw; (try dsimp only at hSw); go_simp; try with_reducible rfl)
  try simp only [Act.put, List.setIfInBounds_toArray, List.set_cons_zero, List.set_cons_succ]
  refine wpAnyH_take (i := 6) (v := ?_) (by simp only [List.getElem?_toArray, List.getElem?_cons_succ, List.getElem?_cons_zero]; rfl) (by kernel_rfl) (by kernel_rfl) (by kernel_rfl) (fun _ _ _ h => h) (Or.inl ⟨by rfl, ?_⟩) (by assumption) ?_
  rotate_left 1
  · (intro w hSw; (try dsimp only at hSw); go_simp; try with_reducible rfl)
  try simp only [Act.put, List.setIfInBounds_toArray, List.set_cons_zero, List.set_cons_succ]
  refine wpAnyH_take (i := 7) (v := ?_) (by simp only [List.getElem?_toArray, List.getElem?_cons_succ, List.getElem?_cons_zero]; rfl) (by kernel_rfl) (by kernel_rfl) (by kernel_rfl) (fun _ _ _ h => h) (Or.inl ⟨by rfl, ?_⟩) (by assumption) ?_
  rotate_left 1
  · (intro w hSw; (try dsimp only at hSw); go_simp; try with_reducible rfl)
  try simp only [Act.put, List.setIfInBounds_toArray, List.set_cons_zero, List.set_cons_succ]
  refine wpAnyH_take (i := 8) (v := ?_) (by simp only [List.getElem?_toArray, List.getElem?_cons_succ, List.getElem?_cons_zero]; rfl) (by kernel_rfl) (by kernel_rfl) (by kernel_rfl) (fun _ _ _ h => h) (Or.inl ⟨by rfl, ?_⟩) (by assumption) ?_
  rotate_left 1
  · (intro w hSw; (try dsimp only at hSw); go_simp; try with_reducible rfl)
  try simp only [Act.put, List.setIfInBounds_toArray, List.set_cons_zero, List.set_cons_succ]
  refine wpAnyH_take (i := 9) (v := ?_) (by simp only [List.getElem?_toArray, List.getElem?_cons_succ, List.getElem?_cons_zero]; rfl) (by kernel_rfl) (by kernel_rfl) (by kernel_rfl) (fun _ _ _ h => h) (Or.inl ⟨by rfl, ?_⟩) (by assumption) ?_
  rotate_left 1
  · (intro w hSw; (try dsimp only at hSw); go_simp; try with_reducible rfl)
  try simp only [Act.put, List.setIfInBounds_toArray, List.set_cons_zero, List.set_cons_succ]
  refine wpAnyH_take (i := 10) (v := ?_) (by simp only [List.getElem?_toArray, List.getElem?_cons_succ, List.getElem?_cons_zero]; rfl) (by kernel_rfl) (by kernel_rfl) (by kernel_rfl) (fun _ _ _ h => h) (Or.inl ⟨by rfl, ?_⟩) (by assumption) ?_
  rotate_left 1
  · (intro w hSw; (try dsimp only at hSw); go_simp; try with_reducible rfl)
  try simp only [Act.put, List.setIfInBounds_toArray, List.set_cons_zero, List.set_cons_succ]
  refine wpAnyH_take (i := 11) (v := ?_) (by simp only [List.getElem?_toArray, List.getElem?_cons_succ, List.getElem?_cons_zero]; rfl) (by kernel_rfl) (by kernel_rfl) (by kernel_rfl) (fun _ _ _ h => h) (Or.inl ⟨by rfl, ?_⟩) (by assumption) ?_
  rotate_left 1
  · (intro w hSw; (try dsimp only at hSw); go_simp; try with_reducible rfl)
  try simp only [Act.put, List.setIfInBounds_toArray, List.set_cons_zero, List.set_cons_succ]
  refine wpAnyH_take (i := 12) (v := ?_) (by simp only [List.getElem?_toArray, List.getElem?_cons_succ, List.getElem?_cons_zero]; rfl) (by kernel_rfl) (by kernel_rfl) (by kernel_rfl) (fun _ _ _ h => h) (Or.inl ⟨by rfl, ?_⟩) (by assumption) ?_
  rotate_left 1
  · (intro w hSw; (try dsimp only at hSw); go_simp; try with_reducible rfl)
  try simp only [Act.put, List.setIfInBounds_toArray, List.set_cons_zero, List.set_cons_succ]
  refine wpAnyH_take (i := 13) (v := ?_) (by simp only [List.getElem?_toArray, List.getElem?_cons_succ, List.getElem?_cons_zero]; rfl) (by kernel_rfl) (by kernel_rfl) (by kernel_rfl) (fun _ _ _ h => h) (Or.inl ⟨by rfl, ?_⟩) (by assumption) ?_
  rotate_left 1
  · (intro w hSw; (try dsimp only at hSw); go_simp; try with_reducible rfl)
  try simp only [Act.put, List.setIfInBounds_toArray, List.set_cons_zero, List.set_cons_succ]
  refine wpAnyH_take (i := 14) (v := ?_) (by simp only [List.getElem?_toArray, List.getElem?_cons_succ, List.getElem?_cons_zero]; rfl) (by kernel_rfl) (by kernel_rfl) (by kernel_rfl) (fun _ _ _ h => h) (Or.inl ⟨by rfl, ?_⟩) (by assumption) ?_
  rotate_left 1
  · (intro w hSw; (try dsimp only at hSw); go_simp; try with_reducible rfl)
  try simp only [Act.put, List.setIfInBounds_toArray, List.set_cons_zero, List.set_cons_succ]
  refine wpAnyH_ready (rs := [15]) (by kernel_rfl) (by simp) ?_
  refine AllReadyH.cons (by simp only [List.getElem?_toArray, List.getElem?_cons_succ, List.getElem?_cons_zero]; rfl) (fun K hK => ?_) ?_
  rotate_left 1
  · exact AllReadyH.nil
  go_simp
  refine hK.out _ _ ?_ (fun hHeld2 => ?_)
  · ((try dsimp only) <;> (exact KK.out _ ((Below.refl _ w2).alloc (Nat.le_refl _) _).drew))
  clear hHeld
  have hHeld := hHeld2
  clear hHeld2 hK K
  try simp only [Act.put, List.setIfInBounds_toArray, List.set_cons_zero, List.set_cons_succ]
  refine wpAnyH_take (i := 16) (v := ?_) (by simp only [List.getElem?_toArray, List.getElem?_cons_succ, List.getElem?_cons_zero]; rfl) (by kernel_rfl) (by kernel_rfl) (by kernel_rfl) (fun _ _ _ h => h) (Or.inl ⟨by rfl, ?_⟩) (by assumption) ?_
  rotate_left 1
  · (intro w hSw; (try dsimp only at hSw); go_simp; try with_reducible rfl)
  try simp only [Act.put, List.setIfInBounds_toArray, List.set_cons_zero, List.set_cons_succ]
  refine wpAnyH_ready (rs := [17]) (by kernel_rfl) (by simp) ?_
  refine AllReadyH.cons (by simp only [List.getElem?_toArray, List.getElem?_cons_succ, List.getElem?_cons_zero]; rfl) (fun K hK => ?_) ?_
  rotate_left 1
  · exact AllReadyH.nil
  go_simp
  refine hK.out _ _ ?_ (fun hHeld2 => ?_)
  · ((try dsimp only) <;> (exact KK.out _ ((Below.refl _ w2).alloc (Nat.le_refl _) _).drew))
  clear hHeld
  have hHeld := hHeld2
  clear hHeld2 hK K
  try simp only [Act.put, List.setIfInBounds_toArray, List.set_cons_zero, List.set_cons_succ]
  refine wpAnyH_take (i := 18) (v := ?_) (by simp only [List.getElem?_toArray, List.getElem?_cons_succ, List.getElem?_cons_zero]; rfl) (by kernel_rfl) (by kernel_rfl) (by kernel_rfl) (fun _ _ _ h => h) (Or.inl ⟨by rfl, ?_⟩) (by assumption) ?_
  rotate_left 1
  · (intro w hSw; (try dsimp only at hSw); go_simp; try with_reducible rfl)
  try simp only [Act.put, List.setIfInBounds_toArray, List.set_cons_zero, List.set_cons_succ]
  refine wpAnyH_ready (rs := [19]) (by kernel_rfl) (by simp) ?_
  refine AllReadyH.cons (by simp only [List.getElem?_toArray, List.getElem?_cons_succ, List.getElem?_cons_zero]; rfl) (fun K hK => ?_) ?_
  rotate_left 1
  · exact AllReadyH.nil
  go_simp
  refine hK.out _ _ ?_ (fun hHeld2 => ?_)
  · ((try dsimp only) <;> (exact KK.out _ ((Below.refl _ w2).alloc (Nat.le_refl _) _).drew))
  clear hHeld
  have hHeld := hHeld2
  clear hHeld2 hK K
  try simp only [Act.put, List.setIfInBounds_toArray, List.set_cons_zero, List.set_cons_succ]
  refine wpAnyH_take (i := 20) (v := ?_) (by simp only [List.getElem?_toArray, List.getElem?_cons_succ, List.getElem?_cons_zero]; rfl) (by kernel_rfl) (by kernel_rfl) (by kernel_rfl) (fun _ _ _ h => h) (Or.inl ⟨by rfl, ?_⟩) (by assumption) ?_
  rotate_left 1
  · (intro w hSw; (try dsimp only at hSw); go_simp; try with_reducible rfl)
  try simp only [Act.put, List.setIfInBounds_toArray, List.set_cons_zero, List.set_cons_succ]
  refine wpAnyH_ready (rs := [21]) (by kernel_rfl) (by simp) ?_
  refine AllReadyH.cons (by simp only [List.getElem?_toArray, List.getElem?_cons_succ, List.getElem?_cons_zero]; rfl) (fun K hK => ?_) ?_
  rotate_left 1
  · exact AllReadyH.nil
  go_simp
  refine hK.out _ _ ?_ (fun hHeld2 => ?_)
  · ((try dsimp only) <;> (exact KK.out _ ((Below.refl _ w2).alloc (Nat.le_refl _) _).drew))
  clear hHeld
  have hHeld := hHeld2
  clear hHeld2 hK K
  try simp only [Act.put, List.setIfInBounds_toArray, List.set_cons_zero, List.set_cons_succ]
  refine wpAnyH_done (by kernel_rfl) ?_ _
  refine NoPanic.normal ?_
  clear hHeld KK
  have q0 : IntKind.u8.wrap (n : Int) = ((UInt8.ofNat n).toNat : Int) := by rw [UInt8.toNat_ofNat']; simp [IntKind.wrap, IntKind.bits, IntKind.signed]
  have q1 : IntKind.u8.wrap ((n : Int) / 256) = ((UInt8.ofNat (n / 256)).toNat : Int) := by rw [UInt8.toNat_ofNat']; simp [IntKind.wrap, IntKind.bits, IntKind.signed]
  have q2 : IntKind.u8.wrap (f : Int) = ((UInt8.ofNat f).toNat : Int) := by rw [UInt8.toNat_ofNat']; simp [IntKind.wrap, IntKind.bits, IntKind.signed]
  have q3 : IntKind.u8.wrap ((f : Int) / 256) = ((UInt8.ofNat (f / 256)).toNat : Int) := by rw [UInt8.toNat_ofNat']; simp [IntKind.wrap, IntKind.bits, IntKind.signed]
  generalize ho : Obj.cells _ 81 = o
  have ho2 : o = .cells (u8s (ptW n f)).toArray 81 := by
    rw [← ho]
    simp [u8s, ptW, leN_two, q0, q1, q2, q3, List.replicate]
  clear ho q0 q1 q2 q3
  subst ho2
  generalize IntKind.u8.wrap (n : Int) = z0
  generalize IntKind.u8.wrap ((n : Int) / 256) = z1
  generalize IntKind.u8.wrap (f : Int) = z2
  generalize IntKind.u8.wrap ((f : Int) / 256) = z3
  generalize (n : Int) / 256 = z4
  generalize (f : Int) / 256 = z5
  have K5 := hide ((Blk.new w2 81 (u8s (ptW n f)).toArray).drew)
  have K1 := hide ((K2.out.alloc (.cells (u8s (ptW n f)).toArray 81)).drew)
  have B3 := hide ((B2.out.alloc B2.out.size (.cells (u8s (ptW n f)).toArray 81)).drew)
  obtain ⟨g5, hg5⟩ : ∃ g5, g5 = w2.heap.size := ⟨_, rfl⟩
  rw [← hg5] at K5 ⊢
  clear hg5 K2 B2
  generalize (w2.alloc (.cells (u8s (ptW n f)).toArray 81)).drew = w3 at *
  go_wp2_with fail
  have b6 := Blk.new w3 24 #[.slice none 0 0]
  have K1b := hide (K1.out.alloc (.cells #[.slice none 0 0] 24))
  have K5b := hide (K5.out.alloc (.cells #[.slice none 0 0] 24))
  have B4 := hide (B3.out.alloc B3.out.size (.cells #[.slice none 0 0] 24))
  obtain ⟨g6, hg6⟩ : ∃ g6, g6 = w3.heap.size := ⟨_, rfl⟩
  rw [← hg6] at b6 ⊢
  have K6 := hide b6
  have hlt1 := K1b.out.lt
  have hlt5 := K5b.out.lt
  have hlt6 := K6.out.lt
  have hne : g6 ≠ g1 ∧ g6 ≠ g5 := ⟨fun e => by have := K1.out.lt; omega, fun e => by have := K5.out.lt; omega⟩
  have hg6w : Hid (w.heap.size ≤ g6) := hide (by rw [hg6]; exact B3.out.size)
  clear b6 hg6 K1 K5 B3
  generalize w3.alloc (.cells #[.slice none 0 0] 24) = w4 at *
  refine (chunk_any (some ⟨g5, 0, none⟩) 44 44 11 (by decide) w4).mono ?_
  rintro r w5 ⟨rfl, hw5⟩
  have hb5 : Below w4.heap.size w4 w5 := by rw [hw5]; exact ((Below.refl _ _).alloc (Nat.le_refl _) _).alloc (by simp) _
  have hs5 : w5.heap.size = w4.heap.size + 2 := by rw [hw5]; simp
  have ks := (Blk.new w4 24 #[.slice (some ⟨g5, 0, none⟩) 44 44]).alloc (.cells #[.int .i64 (11 : Int)] 3)
  have kp := Blk.new (w4.alloc (.cells #[.slice (some ⟨g5, 0, none⟩) 44 44] 24)) 3 #[.int .i64 (11 : Int)]
  rw [World.size_alloc] at kp
  have KS := hide (show Blk w5 w4.heap.size 24 #[.slice (some ⟨g5, 0, none⟩) 44 44] from by rw [hw5]; exact ks)
  have KP := hide (show Blk w5 (w4.heap.size + 1) 3 #[.int .i64 (11 : Int)] from by rw [hw5]; exact kp)
  have L1 := hide (K1b.out.below hb5)
  have L5 := hide (K5b.out.below hb5)
  have L6 := hide (K6.out.below hb5)
  have B5 := hide (B4.out.trans (hb5.mono B4.out.size))
  have HS5 := hide hs5
  have hb5' := hide hb5
  clear hw5 hb5 ks kp K1b K5b K6 B4 hs5
  generalize w4.heap.size = s4 at *
  go_wp2_with fail
  refine (wpIn_wide (n := 8)).1 ?_
  generalize ha : ({ tmps := _, defers := _ } : Act) = a
  refine wpIn_rangeFunc_ownG (a := a) rfl (by decide) (gf := 53) (lb := #[.pointer (some ⟨s4, 0, none⟩), .pointer (some ⟨s4 + 1, 0, none⟩)]) (by rw [← ha]; rfl) trivial (enters_of Try.func53 (by kernel_rfl) rfl)
    (chunk_stops 7 (by decide) s4 (s4 + 1) g5 4 11 44 ⟨by decide, by decide⟩ (by decide) (by decide) (by decide) w5 (by have := HS5.out; omega) (by have := HS5.out; omega) (KS.out.cell 0) (KP.out.cell 0))
    KpS.trans (KpS.put (by intro g hg; have := HS5.out; simp only [List.mem_cons, List.not_mem_nil, or_false] at hg; omega)) (Below.refl _ _) (fun _ => rfl)
    (fun pre W => (∃ A k, Blk W g6 24 #[.slice A (16 * pre.length) k] ∧ W.ownsRow w5.heap.size 5 1 (.slice A (16 * pre.length) k) (16 * pre.length) (u8s (secs e c n f pre))) ∧ Blk W g1 23 #[.int .i64 (e : Int), .int .i64 (c : Int), .int .i64 (n : Int), .int .i64 (f : Int)] ∧ Blk W g5 81 (u8s (ptW n f)).toArray ∧ Below w.heap.size w W ∧ w5.heap.size ≤ W.heap.size)
    (fun _ _ _ => False) ?hI (fun _ _ _ _ _ hs _ _ => hs)
    ⟨⟨none, 0, L6.out, World.ownsRow_nil _ _ _ _⟩, L1.out, L5.out, B5.out, Nat.le_refl _⟩
    (fun x => { tmps := (a.tmps.setIfInBounds 33 (.slice (some ⟨g5, 11 * x.1, none⟩) 11 11)).setIfInBounds 7 (.slice (some ⟨g5, 11 * x.1, none⟩) 11 11), defers := [] }) ?assign ?body ?done ?stop
  case hI =>
    rintro pre W W' row ⟨⟨A, k, h6, hr⟩, h1, h5, hB, hsz⟩ hg hrow
    have hnc : ∀ g t cs, Blk W g t cs → some g ≠ row := fun g t cs hb e => by
      obtain ⟨-, o, ho, hoc⟩ := hrow g e.symm
      have : some o = some (Obj.cells cs t) := ho.symm.trans hb
      injection this with this
      subst this
      cases hoc
    have hnr : ∀ g, (Value.slice A (16 * pre.length) k).ownBlock = some g → some g ≠ row := fun g hgb => by
      rcases hr.2 with ⟨hv, -⟩ | ⟨g', cap, cur, hv, -, hB', -⟩
      · rw [hv] at hgb; cases hgb
      · rw [hv] at hgb
        simp only [Value.ownBlock, Option.some.injEq] at hgb
        subst hgb
        exact hnc _ _ _ hB'
    exact ⟨⟨A, k, blk_gr h6 hg (hnc _ _ _ h6), own_gr hr hg hnr⟩, blk_gr h1 hg (hnc _ _ _ h1), blk_gr h5 hg (hnc _ _ _ h5), bel_gr hB hg (fun g e => Nat.le_trans B5.out.size (hrow g e).1) hB.size, Nat.le_trans hsz hg.size⟩
  case assign =>
    intro l x W K hK
    subst ha
    simp only [List.setIfInBounds_toArray, List.set_cons_zero, List.set_cons_succ] at hK
    gi_wp2
    exact hK
  case body =>
    rintro l pre x W ⟨⟨A, k, h6, hr⟩, h1, h5, hB, hsz⟩ hlen
    subst ha
    simp only [List.setIfInBounds_toArray, List.set_cons_zero, List.set_cons_succ]
    have I0 := hide (show EncI w w5 W W g1 g5 g6 s4 #[.int .i64 (e : Int), .int .i64 (c : Int), .int .i64 (n : Int), .int .i64 (f : Int)] (u8s (ptW n f)).toArray A k (16 * pre.length) (secs e c n f pre) from ⟨h6, hr, h1, h5, hB, hsz, KeepsOthers.refl _, KpS.refl _ _⟩)
    have LT : Hid (g1 < w5.heap.size ∧ g5 < w5.heap.size ∧ g6 < w5.heap.size ∧ s4 + 1 < w5.heap.size) := hide (by have := HS5.out; omega)
    have NE : Hid (g6 ≠ g1 ∧ g6 ≠ g5 ∧ g6 < s4) := hide ⟨hne.1, hne.2, hlt6⟩
    clear h6 hr h1 h5 hB hsz
    obtain ⟨L, hL⟩ : ∃ L, L = pre.length := ⟨_, rfl⟩
    have HL := hide hL
    rw [← hL] at I0 hlen
    clear hL
    have c6 := I0.out.h6.cell 0
    have f6 := I0.out.h6.frozen 0
    have c10 := I0.out.h1.cell 0
    have c11 := I0.out.h1.cell 1
    simp only [List.getElem?_toArray, List.getElem?_cons_succ, List.getElem?_cons_zero] at c6 c10 c11
    have hh := hide (ptHead_cells e c L he hc (by omega))
    have hx11 : 11 * x.1 + 11 ≤ 44 := by have := x.2; omega
    have HX := hide hx11
    clear hne hlt1 hlt5 hlt6 hx11
    gi_wp2_with (first
      | (gi_at_builtin
         refine wpListIn_app rfl (.tmp 34) (.tmp 53) _ rfl etyB w5.heap.size (.slice A (16 * L) k) (16 * L) _ rfl (own_bel I0.out.r ((Below.refl _ _).alloc (Nat.le_refl _) _)) (W.heap.size + 1) (some ⟨W.heap.size, 0, none⟩) 5 5 (u8s (ptHead e c L)) rfl ?_ (u8s_one _) (by omega) (Nat.le_trans I0.out.s (by simp)) ?_
         · have := sl_new W (u8s (ptHead e c L)) 5
           rw [hh.out] at this ⊢
           exact this
         intro A2 k2 W2 hr2 hg2 _
         have I1 := hide (EncI.next I0.out LT.out NE.out hg6w.out ((Below.refl _ _).alloc (Nat.le_refl _) (.cells _ _)) (KeepsOthers.alloc W (.cells _ _)) hr2 hg2)
         have c6b := (blk_gr (I0.out.h6.alloc (.cells _ _)) hg2 (fun e => by have h1 := (I0.out.r.lt g6 e.symm).1; have h2 := LT.out; omega)).cell 0
         have f6b := (blk_gr (I0.out.h6.alloc (.cells _ _)) hg2 (fun e => by have h1 := (I0.out.r.lt g6 e.symm).1; have h2 := LT.out; omega)).frozen 0
         simp only [List.getElem?_toArray, List.getElem?_cons_zero] at c6b
         have c6c := I1.out.h6.cell 0
         have f6c := I1.out.h6.frozen 0
         simp only [List.getElem?_toArray, List.getElem?_cons_zero] at c6c
         clear hr2 hg2 c6 f6 c10 c11)
      | (gi_at_builtin
         refine wpListIn_app rfl (.tmp 55) (.tmp 56) _ rfl etyB w5.heap.size (.slice A2 (16 * L + 5) k2) (16 * L + 5) _ rfl I1.out.r (g5 + 1) (some ⟨g5, 11 * x.1, none⟩) 11 11 (u8s (((ptW n f).drop (11 * x.1)).take 11)) rfl ?_ (u8s_one _) (by omega) I1.out.s ?_
         · have := sl_blk (i := 11 * x.1) (m := 11) I1.out.h5 (by rw [u8s_length, ptW_length]; exact HX.out)
           rw [u8s_drop, u8s_take] at this
           exact this
         intro A3 k3 W3 hr3 hg3 _
         have I2 := hide (EncI.next I1.out LT.out NE.out hg6w.out (Below.refl _ _) (KeepsOthers.refl _) hr3 hg3)
         have c6d := (blk_gr I1.out.h6 hg3 (fun e => by have h1 := (I1.out.r.lt g6 e.symm).1; have h2 := LT.out; omega)).cell 0
         have f6d := (blk_gr I1.out.h6 hg3 (fun e => by have h1 := (I1.out.r.lt g6 e.symm).1; have h2 := LT.out; omega)).frozen 0
         simp only [List.getElem?_toArray, List.getElem?_cons_zero] at c6d
         clear hr3 hg3))
    have hs := secs_snoc e c n f pre x
    rw [← HL.out] at hs
    have I3 := I2.out
    rw [List.append_assoc, ← hs] at I3
    have hl16 : 16 * (pre ++ [x]).length = 16 * L + 5 + 11 := by rw [List.length_append, ← HL.out, List.length_singleton]; omega
    refine ⟨I3.ko.from _, I3.kp, ⟨A3, k3, ?_, ?_⟩, I3.h1, I3.h5, I3.b, I3.s⟩
    · rw [hl16]; exact I3.h6
    · rw [hl16]; exact I3.r
  case done =>
    rintro D ys W hD hys ⟨⟨A, k, h6, hr⟩, h1, h5, hB, hsz⟩ hK
    subst ha
    have c6 := h6.cell 0
    simp only [List.getElem?_toArray, List.getElem?_cons_zero] at c6
    have hl4 : ys.length = 4 := by have := congrArg List.length hys; simpa using this
    rw [secs_all e c n f hys] at hr
    rw [hl4] at c6 hr
    go_wp2_with fail
    refine ⟨by simp, .inl ⟨_, _, rfl, run_takeDeferred hK, ?_⟩⟩
    exact ⟨_, results_tmp2 rfl _ _ _, A, k, rfl, own_bq (ownsRow_putObj hr _ hK rfl) B5.out.size, hB.trans (belowK_b (w := w) (Nat.le_refl _) W D _ _ (Nat.le_trans B5.out.size hD) hK rfl rfl)⟩
  case stop =>
    rintro D c pre W _ _ h _
    exact h.elim
end Go.Proofs.Ytfaingklglelnaa

/- The walk over slices.Equal at []byte. -/
namespace Go.Proofs.Ytfaingklglelnaa
open Go.RowKit

/-- Are two lists of bytes the same? -/
def eqB (a b : List UInt8) : Bool := decide (a = b)
theorem eqB_self (a : List UInt8) : eqB a a = true := by simp [eqB]
theorem eqB_of_ne {a b : List UInt8} (h : a ≠ b) : eqB a b = false := by simp [eqB, h]
theorem take_snoc_eq {a b : List UInt8} {k : Nat} (ha : k < a.length) (hb : k < b.length) (h : a.take k = b.take k) (he : a[k] = b[k]) : a.take (k + 1) = b.take (k + 1) := by
  rw [List.take_succ_eq_append_getElem ha, List.take_succ_eq_append_getElem hb, h, he]

set_option maxHeartbeats 400000 in
theorem equal_any (A A' : Option Addr) (n n' c c' B B' : Nat) (l l' : List UInt8) (w : World) (h : By w B A n l) (h' : By w B' A' n' l') (hn : n ≤ 9223372036854775807) :
    Calls Try.prog 38 #[.slice A n c, .slice A' n' c'] w fun e w' => e = .returned (.bool (eqB l l')) ∧ ∃ k, w' = w.drewN k := by
  have H := hide h
  have H' := hide h'
  clear h h'
  by_cases hnn : n = n'
  · subst hnn
    go_enter Try.func38, Try.ntmps38
    go_wp2
    go_loopw [13] (fun i wr => ∃ k : Nat, k ≤ n ∧ i = .int .i64 k ∧ l.take k = l'.take k ∧ ∃ d, wr = w.drewN d) (fun i _ => n - (intOf i).toNat)
    case atStart => exact ⟨0, by omega, rfl, rfl, 0, rfl⟩
    case round =>
      obtain ⟨k, hk, rfl, htk, d, rfl⟩ := hrel
      have Htk := hide htk
      clear htk
      by_cases hlt : k < n
      · obtain ⟨hl, ad, rfl, hcell⟩ := By.get H.out hlt
        obtain ⟨hl', ad', rfl, hcell'⟩ := By.get H'.out hlt
        by_cases heq : l[k] = l'[k]
        · have Hsn := hide (take_snoc_eq hl hl' Htk.out heq)
          rw [← heq] at hcell'
          clear heq
          generalize l[k].toNat = x at *
          go_wp2
          go_quiet (fail)
          go_wp2
          go_roundw
          case rel => exact ⟨k + 1, by omega, by go_num, Hsn.out, _, rfl⟩
          case measure => simp [intOf]; omega
        · have hne : ((l[k].toNat : Int) != l'[k].toNat) = true := by
            rw [bne_iff_ne]
            intro e
            exact heq (UInt8.toNat_inj.1 (by omega))
          have Hf := hide (eqB_of_ne (a := l) (b := l') (fun e => heq (by subst e; rfl)))
          clear heq
          generalize l[k].toNat = x at *
          generalize l'[k].toNat = y at *
          go_wp2
          go_quiet (fail)
          go_wp2
          go_ret
          exact ⟨by rw [Hf.out]; rfl, _, World.drewN_drewN _ _ _⟩
      · have Hl := hide (By.length H.out)
        have Hl' := hide (By.length H'.out)
        have Hf := hide (show l = l' by
          have := Htk.out
          rwa [List.take_of_length_le (by rw [Hl.out]; omega), List.take_of_length_le (by rw [Hl'.out]; omega)] at this)
        go_wp2
        go_ret
        exact ⟨by rw [Hf.out, eqB_self]; rfl, _, rfl⟩
  · have hne : ((n : Int) != n') = true := by rw [bne_iff_ne]; omega
    have Hf := hide (eqB_of_ne (a := l) (b := l') (fun e => hnn (by rw [← By.length H.out, ← By.length H'.out, e])))
    clear hnn
    go_enter Try.func38, Try.ntmps38
    go_wp2
    go_ret
    exact ⟨by rw [Hf.out]; rfl, 0, rfl⟩

/-- New memory of the call: bytes in a row of their own. -/
abbrev OwnBy (w : World) (base : Nat) (A : Option Addr) (n c : Nat) (l : List UInt8) : Prop := w.ownsRow base 5 1 (.slice A n c) n (u8s l)
theorem OwnBy.by {w : World} {base n c : Nat} {A : Option Addr} {l : List UInt8} (h : OwnBy w base A n c l) : By w w.heap.size A n l := Sl.of_own h
end Go.Proofs.Ytfaingklglelnaa

/- Points in memory: a block of four cells. -/
namespace Go.Proofs.Ytfaingklglelnaa
open Go.RowKit

/-- A boxed struct and a temporary given back. -/
theorem results_ct {P : Program} {fn : Func} {p q : Tmp} {ty : TypeId} (h : fn.results = #[.cell p ty, .tmp q]) (tmps : Array Value) (w : World) (g : Nat) (t : TypeId) (cs : Array Value) (fr : Nat × Nat) (d : TypeDesc)
    (hp : tmps.getD p undef = .pointer (some ⟨g, 0, none⟩)) (hg : w.heap[g]? = some (.cells cs t fr))
    (hu : P.underlying ty = some d) (hd : (match d with | .struct _ | .array _ _ => true | _ => false) = true) (hi : (P.info? ty).map (·.size) = some cs.size) :
    (results fn tmps).run P w = .ok (.tuple #[.agg cs, tmps.getD q undef]) w := by
  have hp' : tmps[p]?.getD undef = .pointer (some ⟨g, 0, none⟩) := by simpa using hp
  simp [results, h, hp', asAddr, run_loadVar_row w g t ty cs fr d hg hu hd hi]
/-- A temporary and a boxed struct given back. -/
theorem results_tc {P : Program} {fn : Func} {p q : Tmp} {ty : TypeId} (h : fn.results = #[.tmp q, .cell p ty]) (tmps : Array Value) (w : World) (g : Nat) (t : TypeId) (cs : Array Value) (fr : Nat × Nat) (d : TypeDesc)
    (hp : tmps.getD p undef = .pointer (some ⟨g, 0, none⟩)) (hg : w.heap[g]? = some (.cells cs t fr))
    (hu : P.underlying ty = some d) (hd : (match d with | .struct _ | .array _ _ => true | _ => false) = true) (hi : (P.info? ty).map (·.size) = some cs.size) :
    (results fn tmps).run P w = .ok (.tuple #[tmps.getD q undef, .agg cs]) w := by
  have hp' : tmps[p]?.getD undef = .pointer (some ⟨g, 0, none⟩) := by simpa using hp
  simp [results, h, hp', asAddr, run_loadVar_row w g t ty cs fr d hg hu hd hi]
abbrev ptC (a b c d : Int) : Array Value := #[.int .i64 a, .int .i64 b, .int .i64 c, .int .i64 d]
theorem ptb4 {w : World} {g : Nat} {t : TypeId} {x0 x1 x2 x3 : Value} (h : Blk w g t #[x0, x1, x2, x3]) : w.cell? ⟨g, 0, none⟩ = some x0 ∧ w.cell? ⟨g, 1, none⟩ = some x1 ∧ w.cell? ⟨g, 2, none⟩ = some x2 ∧ w.cell? ⟨g, 3, none⟩ = some x3 := ⟨h.cell 0, h.cell 1, h.cell 2, h.cell 3⟩
theorem blk4f {w : World} {g : Nat} {t : TypeId} {x0 x1 x2 x3 : Value} (h : Blk w g t #[x0, x1, x2, x3]) : w.frozen? ⟨g, 0, none⟩ = false ∧ w.frozen? ⟨g, 1, none⟩ = false ∧ w.frozen? ⟨g, 2, none⟩ = false ∧ w.frozen? ⟨g, 3, none⟩ = false := ⟨h.frozen 0, h.frozen 1, h.frozen 2, h.frozen 3⟩
/-- Four cells written. -/
abbrev put4 (w : World) (g : Nat) (y0 y1 y2 y3 : Value) : World := (((w.setCell ⟨g, 0, none⟩ y0).setCell ⟨g, 1, none⟩ y1).setCell ⟨g, 2, none⟩ y2).setCell ⟨g, 3, none⟩ y3
section
variable {w w0 : World} {g B : Nat} {t : TypeId} {x0 x1 x2 x3 y0 y1 y2 y3 : Value}
theorem put4_blk (h : Blk w g t #[x0, x1, x2, x3]) : Blk (put4 w g y0 y1 y2 y3) g t #[y0, y1, y2, y3] := by
  have := (((h.set 0 y0).set 1 y1).set 2 y2).set 3 y3
  simpa using this
theorem put4_bel (h : Below B w0 w) (hB : B ≤ g) : Below B w0 (put4 w g y0 y1 y2 y3) := (((h.setCell (p := ⟨g, 0, none⟩) hB y0).setCell (p := ⟨g, 1, none⟩) hB y1).setCell (p := ⟨g, 2, none⟩) hB y2).setCell (p := ⟨g, 3, none⟩) hB y3
theorem put4_far {g' : Nat} {cs : Array Value} (h : Blk w g' t cs) (hg : g' ≠ g) : Blk (put4 w g y0 y1 y2 y3) g' t cs := (((h.far (p := ⟨g, 0, none⟩) hg y0).far (p := ⟨g, 1, none⟩) hg y1).far (p := ⟨g, 2, none⟩) hg y2).far (p := ⟨g, 3, none⟩) hg y3
theorem put4_kp (w : World) (g : Nat) : Kp [g] w (put4 w g y0 y1 y2 y3) := ((((Kp.refl [g] w).set (p := ⟨g, 0, none⟩) (.inl (by simp)) y0).set (p := ⟨g, 1, none⟩) (.inl (by simp)) y1).set (p := ⟨g, 2, none⟩) (.inl (by simp)) y2).set (p := ⟨g, 3, none⟩) (.inl (by simp)) y3
end
end Go.Proofs.Ytfaingklglelnaa

/- The walk over point.Decode. -/
namespace Go.Proofs.Ytfaingklglelnaa
open Go.RowKit
attribute [local go_sem ↓] Go.wp_at_zero Go.wp_at_succ

theorem two_any (p : Nat) (ad : Addr) (c B : Nat) (l : List UInt8) (j : Nat) (w : World) (hp : w.cell? ⟨p, 0, none⟩ = some (.slice (some ad) 64 c)) (h : By w B (some ad) 64 l) (hj : j ≤ 62) :
    Calls Try.prog 37 #[.int .i64 (j : Int), .pointer (some ⟨p, 0, none⟩)] w fun e w' => e = .returned (.int .i64 (fld l j 2 : Nat)) ∧ ∃ k, w' = w.drewN k := by
  have hl := h.length
  obtain ⟨l0, _, e0, b0⟩ := By.get h (k := j) (by omega)
  obtain ⟨l1, _, e1, b1⟩ := By.get h (k := j + 1) (by omega)
  cases e0; cases e1
  have hf := hide (fld2_eq (l := l) (i := j) (by omega))
  have y0 := l[j].toNat_lt
  have y1 := l[j + 1].toNat_lt
  have hor := or_num l[j].toNat l[j + 1].toNat 1 (by omega) y1 (by omega)
  generalize l[j].toNat = x0 at *
  generalize l[j + 1].toNat = x1 at *
  obtain ⟨j1, hj1⟩ : ∃ j1, j1 = j + 1 := ⟨_, rfl⟩
  have hwj : IntKind.i64.wrap ((j : Int) + 1) = (j1 : Int) := by rw [IntKind.wrap_i64]; omega
  rw [← hj1] at b1
  have hj64 : (j : Int) < 64 := by omega
  have hj164 : (j1 : Int) < 64 := by omega
  have hx0 : IntKind.i64.wrap (x0 : Int) = x0 := by rw [IntKind.wrap_i64]; omega
  have hx1 : IntKind.i64.wrap (x1 : Int) = x1 := by rw [IntKind.wrap_i64]; omega
  have hsh : RowKit.wrap64 ((x1 : Int) * 256) = (x1 : Int) * 256 := IntWalk.wrap64_in _ (by omega)
  have hor2 : bits .or .i64 (x0 : Int) ((x1 : Int) * 256) = ((x0 + 256 * x1 : Nat) : Int) := by
    rw [show ((x1 : Int) * 256) = (x1 : Int) * 2 ^ (8 * 1) by rfl, hor]
    rw [show x1 * 256 ^ 1 = 256 * x1 by omega]
  clear hor hj1 hl h
  go_enter Try.func37, Try.ntmps37
  go_wp2_with fail
  go_quiet (fail)
  go_wp2_with fail
  go_ret
  exact ⟨by rw [hf.out]; simp, _, rfl⟩

/-- The point that a block holds. -/
structure Pt where
  e : Nat
  c : Nat
  n : Nat
  f : Nat
deriving DecidableEq
abbrev Pt.val (p : Pt) : Value := ptV p.e p.c p.n p.f
abbrev Pt.P (p : Pt) : Prop := PtP p.e p.c p.n p.f
abbrev Pt.bytes (p : Pt) : List UInt8 := ptBytes p.e p.c p.n p.f
def ptOf (l : List UInt8) : Pt := ⟨fld l 0 2, fld l 2 2, fld l 5 2, fld l 7 2⟩
def decP (l : List UInt8) : Option Pt := if l.length = 64 ∧ (ptOf l).P ∧ (ptOf l).bytes = l then some (ptOf l) else none
def decV (l : List UInt8) : Value := match decP l with
  | some p => .tuple #[p.val, .int .i64 0]
  | none => .tuple #[ptV 0 0 0 0, .int .i64 100]

theorem ret_dec {K : Ending → World → Prop} {tmps : Array Value} {w : World} {g : Nat} {a b c d : Int} {v : Value} (hp : tmps.getD 2 undef = .pointer (some ⟨g, 0, none⟩)) (hq : tmps.getD 3 undef = v) (hB : Blk w g 23 (ptC a b c d))
    (hK : K (.returned (.tuple #[ptV a b c d, v])) w) : bodyPost Try.prog Try.f14 K .ret ⟨tmps, []⟩ w :=
  bodyPost_ret (results_ct rfl tmps w g _ _ (0, 0) _ hp hB Try.underlying23 rfl (by kernel_rfl)) rfl (by rw [hq]; exact hK)

set_option maxHeartbeats 1000000 in
theorem dec_any (A : Option Addr) (n c B : Nat) (l : List UInt8) (w : World) (h : By w B A n l) (hB : B ≤ w.heap.size) (hc : n ≤ c) (hn : n ≤ 9223372036854775807) :
    Calls Try.prog 14 #[.slice A n c] w fun e w' => e = .returned (decV l) ∧ Below w.heap.size w w' := by
  have H := hide h
  have HB := hide hB
  have HL := hide h.length
  clear h hB
  by_cases h64 : n = 64
  · subst h64
    go_enter Try.func14, Try.ntmps14
    go_wp2_with fail
    obtain ⟨l0, ad, rfl, -⟩ := By.get H.out (k := 0) (by decide)
    have K0 := hide ((Blk.new w 24 #[.slice (some ad) 64 c]).alloc (.cells #[.int .i64 0, .int .i64 0, .int .i64 0, .int .i64 0] 23))
    have K1 := Blk.new (w.alloc (.cells #[.slice (some ad) 64 c] 24)) 23 #[.int .i64 0, .int .i64 0, .int .i64 0, .int .i64 0]
    rw [World.size_alloc] at K1
    have K1 := hide K1
    have B1 := hide (((Below.refl w.heap.size w).alloc (Nat.le_refl _) (.cells #[.slice (some ad) 64 c] 24)).alloc (by simp) (.cells #[.int .i64 0, .int .i64 0, .int .i64 0, .int .i64 0] 23))
    generalize (w.alloc (.cells #[.slice (some ad) 64 c] 24)).alloc (.cells #[.int .i64 0, .int .i64 0, .int .i64 0, .int .i64 0] 23) = w1 at *
    obtain ⟨p, hp⟩ : ∃ p, p = w.heap.size := ⟨_, rfl⟩
    have HP := hide hp
    rw [← hp] at K0 K1 ⊢
    clear hp l0
    refine (two_any p ad c B l 0 _ (K0.out.cell 0) (H.out.below (B1.out.mono HB.out)) (by decide)).mono ?_
    rintro e wx ⟨rfl, nq, rfl⟩
    replace K0 := hide (K0.out.drewN nq)
    replace K1 := hide (K1.out.drewN nq)
    replace B1 := hide (bel_dN B1.out nq)
    generalize w1.drewN nq = w2 at *
    go_wp2_with fail
    refine (two_any p ad c B l 2 _ (K0.out.cell 0) (H.out.below (B1.out.mono HB.out)) (by decide)).mono ?_
    rintro e wx ⟨rfl, nq, rfl⟩
    replace K0 := hide (K0.out.drewN nq)
    replace K1 := hide (K1.out.drewN nq)
    replace B1 := hide (bel_dN B1.out nq)
    generalize w2.drewN nq = w3 at *
    go_wp2_with fail
    refine (two_any p ad c B l 5 _ (K0.out.cell 0) (H.out.below (B1.out.mono HB.out)) (by decide)).mono ?_
    rintro e wx ⟨rfl, nq, rfl⟩
    replace K0 := hide (K0.out.drewN nq)
    replace K1 := hide (K1.out.drewN nq)
    replace B1 := hide (bel_dN B1.out nq)
    generalize w3.drewN nq = w4 at *
    go_wp2_with fail
    refine (two_any p ad c B l 7 _ (K0.out.cell 0) (H.out.below (B1.out.mono HB.out)) (by decide)).mono ?_
    rintro e wx ⟨rfl, nq, rfl⟩
    replace K0 := hide (K0.out.drewN nq)
    replace K1 := hide (K1.out.drewN nq)
    replace B1 := hide (bel_dN B1.out nq)
    generalize w4.drewN nq = w5 at *
    go_wp2_with fail
    have K2 := hide (Blk.new w5 23 (ptC (fld l 0 2) (fld l 2 2) (fld l 5 2) (fld l 7 2)))
    replace K0 := hide (K0.out.alloc (.cells (ptC (fld l 0 2) (fld l 2 2) (fld l 5 2) (fld l 7 2)) 23))
    replace K1 := hide (K1.out.alloc (.cells (ptC (fld l 0 2) (fld l 2 2) (fld l 5 2) (fld l 7 2)) 23))
    replace B1 := hide (B1.out.alloc B1.out.size (.cells (ptC (fld l 0 2) (fld l 2 2) (fld l 5 2) (fld l 7 2)) 23))
    generalize w5.alloc _ = w6 at *
    generalize w5.heap.size = g at *
    by_cases hP : PtP (fld l 0 2) (fld l 2 2) (fld l 5 2) (fld l 7 2)
    · refine (enc_yes _ _ _ _ w6 hP).mono ?_
      rintro e w7 ⟨A2, k2, rfl, hown, hb⟩
      have HO := hide (OwnBy.by hown)
      replace K0 := hide (K0.out.below hb)
      replace K1 := hide (K1.out.below hb)
      replace K2 := hide (K2.out.below hb)
      replace B1 := hide (B1.out.trans (hb.mono B1.out.size))
      clear hown hb
      have c8 := K0.out.cell 0
      simp only [List.getElem?_toArray, List.getElem?_cons_zero] at c8
      go_wp2_with fail
      refine (equal_any A2 (some ad) 64 64 k2 c _ B _ l w7 HO.out (H.out.below (B1.out.mono HB.out)) (by decide)).mono ?_
      rintro e w8 ⟨rfl, nq, rfl⟩
      replace K1 := hide (K1.out.drewN nq)
      replace K2 := hide (K2.out.drewN nq)
      replace B1 := hide (bel_dN B1.out nq)
      clear c8 HO K0
      generalize w7.drewN nq = w8 at *
      obtain ⟨c0, c1, c2, c3⟩ := ptb4 K1.out
      obtain ⟨f0, f1, f2, f3⟩ := blk4f K1.out
      by_cases hQ : ptBytes (fld l 0 2) (fld l 2 2) (fld l 5 2) (fld l 7 2) = l
      · have HF := hide (show decP l = some (ptOf l) from if_pos ⟨HL.out, hP, hQ⟩)
        have hq : eqB (ptBytes (fld l 0 2) (fld l 2 2) (fld l 5 2) (fld l 7 2)) l = true := by rw [hQ, eqB_self]
        rw [hq]
        clear hQ hP hq
        obtain ⟨d0, d1, d2, d3⟩ := ptb4 K2.out
        go_wp2_with fail
        exact ret_dec rfl rfl (put4_blk K1.out) ⟨by unfold decV; rw [HF.out]; rfl, put4_bel B1.out (by rw [HP.out]; omega)⟩
      · have HF := hide (show decP l = none from if_neg (by rintro ⟨-, -, h⟩; exact hQ h))
        rw [eqB_of_ne hQ]
        clear hQ hP
        go_wp2_with fail
        exact ret_dec rfl rfl (put4_blk K1.out) ⟨by unfold decV; rw [HF.out]; rfl, put4_bel B1.out (by rw [HP.out]; omega)⟩
    · refine (enc_no _ _ _ _ w6 hP).mono ?_
      rintro e w7 ⟨rfl, hb⟩
      have HF := hide (show decP l = none from if_neg (by rintro ⟨-, h, -⟩; exact hP h))
      clear hP
      replace K1 := hide (K1.out.below hb)
      replace B1 := hide (B1.out.trans (hb.mono B1.out.size))
      clear hb
      obtain ⟨c0, c1, c2, c3⟩ := ptb4 K1.out
      obtain ⟨f0, f1, f2, f3⟩ := blk4f K1.out
      go_wp2_with fail
      exact ret_dec rfl rfl (put4_blk K1.out) ⟨by unfold decV; rw [HF.out]; rfl, put4_bel B1.out (by rw [HP.out]; omega)⟩
  · have hn' : ((n : Int) != 64) = true := by simp; omega
    have HF := hide (show decP l = none from if_neg (by rintro ⟨h, -⟩; exact h64 (HL.out ▸ h)))
    clear h64
    go_enter Try.func14, Try.ntmps14
    go_wp2_with fail
    have K1 := Blk.new (w.alloc (.cells #[.slice A n c] 24)) 23 #[.int .i64 0, .int .i64 0, .int .i64 0, .int .i64 0]
    rw [World.size_alloc] at K1
    exact ret_dec rfl rfl K1 ⟨by unfold decV; rw [HF.out]; rfl, ((Below.refl w.heap.size w).alloc (Nat.le_refl _) _).alloc (by simp) _⟩
end Go.Proofs.Ytfaingklglelnaa
