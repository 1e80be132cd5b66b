import Derived.Test.YtbamdibpkkponaaDoorJb08
import Derived.Test.YtbamdibpkkponaaDoorJb10
import Derived.Test.YtbamdibpkkponaaDoorJb11
set_option linter.unusedVariables false
set_option linter.unusedSimpArgs false
/- The walk of marlref06.Decode (printed by gen_smrdec.py). -/
namespace Go.Proofs.YtbamdibpkkponaaDoor
open Go.RowKit
attribute [local go_sem ↓] Go.wp_at_zero Go.wp_at_succ

theorem ret_decR {K : Ending → World → Prop} {tmps : Array Value} {w : World} {g : Nat} {cs : Array Value} {v u : Value} (hp : tmps.getD 2 undef = .pointer (some ⟨g, 0, none⟩)) (hq : tmps.getD 3 undef = v) (hu : tmps.getD 4 undef = u) (hB : Blk w g 25 cs) (hs : cs.size = 7)
    (hK : K (.returned (.tuple #[.agg cs, v, u])) w) : bodyPost Tryd.prog Tryd.f22 K .ret ⟨tmps, []⟩ w :=
  bodyPost_ret (results_ctt rfl tmps w g _ _ (0, 0) _ hp hB Tryd.underlying25 rfl (by rw [hs]; kernel_rfl)) rfl (by rw [hq, hu]; exact hK)
theorem nx2_at (l : List UInt8) (i : Nat) : (nx 2 (l.drop i)) = nx 1 (l.drop i) + 256 * nx 1 (l.drop (i + 1)) := by
  rw [← List.drop_drop]
  rcases l.drop i with _ | ⟨a, _ | ⟨b, r⟩⟩ <;> simp [nx, leV]
theorem nx4_at (l : List UInt8) (i : Nat) : (nx 4 (l.drop i)) = nx 1 (l.drop i) + 256 * nx 1 (l.drop (i + 1)) + 65536 * nx 1 (l.drop (i + 2)) + 16777216 * nx 1 (l.drop (i + 3)) := by
  rw [← List.drop_drop (i := 1), ← List.drop_drop (i := 2), ← List.drop_drop (i := 3)]
  rcases l.drop i with _ | ⟨a, _ | ⟨b, _ | ⟨c, _ | ⟨d, r⟩⟩⟩⟩ <;> simp [nx, leV] <;> omega
set_option maxRecDepth 100000 in
set_option maxHeartbeats 4000000 in
theorem rdec_any (A : Option Addr) (n c base : Nat) (l : List UInt8) (w : World) (h : ByT 0 base w A n l) (hbase : base ≤ w.heap.size) (hc : n ≤ c) (hcm : c ≤ 9223372036854775807) :
    Calls Tryd.prog 22 #[.slice A n c] w fun r w' => DecAns l w.heap.size r w' ∧ Below w.heap.size w w' := by
  have H := hide h
  have HBS := hide hbase
  have hl := ByT.len h
  clear h hbase
  by_cases hn : n = 128
  rotate_left
  · have hn' : ¬ (n : Int) = 128 := by omega
    have HN := hide (show ∀ v s, ¬ IsEnc l v s from fun v s hv => hn (by rw [← hl]; exact parseC_len hv))
    clear hn hl
    go_enter Tryd.func22, Tryd.ntmps22
    go_wp2_with fail
    exact ret_decR rfl rfl rfl (Blk.new _ _ _) rfl ⟨.inr ⟨HN.out, rfl⟩, (Below.refl _ _).alloc (Nat.le_refl _) _⟩
  subst hn
  have HC := hide (And.intro hc hcm)
  have HL := hide hl
  clear hc hcm
  obtain ⟨b0, off0, hA, hFr, hcb⟩ := RwAt.at H.out (by decide) (by decide)
  have hby : ∀ k (hk : k < 128), w.cell? ⟨b0, off0 + k, none⟩ = some (.int .u8 (((l[k]'(by omega)).toNat : Nat) : Int)) := fun k hk => hcb k _ (by rw [u8s, List.getElem?_map, List.getElem?_eq_getElem (by omega)]; rfl)
  have c0 := hby 0 (by decide)
  have c1 := hby 1 (by decide)
  have c2 := hby 2 (by decide)
  have c3 := hby 3 (by decide)
  have HE : Hid (nx 2 l = (l[0]'(by omega)).toNat + 256 * (l[1]'(by omega)).toNat ∧ nx 2 (l.drop 2) = (l[2]'(by omega)).toNat + 256 * (l[3]'(by omega)).toNat) := hide (by
    match l, hl with
    | a :: b :: c :: d :: r, _ => exact ⟨nx2 _ _ _, nx2 _ _ _⟩)
  have h8 : ∀ k (hk : k < 128), (l[k]'(by omega)).toNat < 256 := fun k hk => UInt8.toNat_lt _
  have k0 := h8 0 (by decide)
  have k1 := h8 1 (by decide)
  have k2 := h8 2 (by decide)
  have k3 := h8 3 (by decide)
  clear hby hcb h8
  generalize (l[0]'(by omega)).toNat = t0 at *
  generalize (l[1]'(by omega)).toNat = t1 at *
  generalize (l[2]'(by omega)).toNat = t2 at *
  generalize (l[3]'(by omega)).toNat = t3 at *
  subst hA
  have LB := hide hFr.2.1
  clear hl hFr
  have e0 : IntKind.i64.wrap (t0 : Int) = (t0 : Int) := by rw [IntKind.wrap_i64]; omega
  have e1 : IntKind.i64.wrap (t1 : Int) = (t1 : Int) := by rw [IntKind.wrap_i64]; omega
  have e2 : IntKind.i64.wrap (t2 : Int) = (t2 : Int) := by rw [IntKind.wrap_i64]; omega
  have e3 : IntKind.i64.wrap (t3 : Int) = (t3 : Int) := by rw [IntKind.wrap_i64]; omega
  have e4 : IntKind.i64.wrap (256 * (t1 : Int)) = 256 * (t1 : Int) := by rw [IntKind.wrap_i64]; omega
  have e5 : IntKind.i64.wrap (256 * (t3 : Int)) = 256 * (t3 : Int) := by rw [IntKind.wrap_i64]; omega
  have e6 : IntKind.i64.wrap ((t0 : Int) + 256 * (t1 : Int)) = (t0 : Int) + 256 * (t1 : Int) := by rw [IntKind.wrap_i64]; omega
  have e7 : IntKind.i64.wrap ((t2 : Int) + 256 * (t3 : Int)) = (t2 : Int) + 256 * (t3 : Int) := by rw [IntKind.wrap_i64]; omega
  go_enter Tryd.func22, Tryd.ntmps22
  go_upto_region 3 with fail
  obtain ⟨w2, hw2⟩ : ∃ W, W = w.alloc (.cells #[.int .i64 0, .int .i64 0, .int .i64 0, .int .i64 0, .int .i64 0, .slice none 0 0, .slice none 0 0] 25) := ⟨_, rfl⟩
  have KZ : Hid (Blk w2 w.heap.size 25 #[.int .i64 0, .int .i64 0, .int .i64 0, .int .i64 0, .int .i64 0, .slice none 0 0, .slice none 0 0]) := hide (by rw [hw2]; exact Blk.new _ _ _)
  have B2 : Hid (Below w.heap.size w w2) := hide (by rw [hw2]; exact (Below.refl _ _).alloc (Nat.le_refl _) _)
  have HBy := hide (fun (w' : World) (hb : Below w.heap.size w w') => show ByT 0 w.heap.size w' (some ⟨b0, off0, none⟩) 128 l from RwAt.base_ (RwAt.below H.out hb) HBS.out)
  have L2 := hide (show w2.heap.size = w.heap.size + 1 by rw [hw2]; simp)
  have CB := hide (fun (w' : World) (hb : Below w.heap.size w w') => show w'.cell? ⟨b0, off0, none⟩ = some (.int .u8 (t0 : Int)) ∧ w'.cell? ⟨b0, off0 + 1, none⟩ = some (.int .u8 (t1 : Int)) ∧ w'.cell? ⟨b0, off0 + 2, none⟩ = some (.int .u8 (t2 : Int)) ∧ w'.cell? ⟨b0, off0 + 3, none⟩ = some (.int .u8 (t3 : Int)) from
    ⟨(hb.cell (p := ⟨b0, off0, none⟩) LB.out).trans c0, (hb.cell (p := ⟨b0, off0 + 1, none⟩) LB.out).trans c1, (hb.cell (p := ⟨b0, off0 + 2, none⟩) LB.out).trans c2, (hb.cell (p := ⟨b0, off0 + 3, none⟩) LB.out).trans c3⟩)
  rw [← hw2]
  clear hw2 H c0 c1 c2 c3
  obtain ⟨S, hS⟩ : ∃ S, S = w.heap.size := ⟨_, rfl⟩
  have HS := hide hS
  rw [← hS] at KZ B2 HBy L2 CB ⊢
  clear hS
  have BD := hide ((Below.refl w2.heap.size w2).drew)
  have hS2 : S ≤ w2.heap.size := by rw [L2.out]; omega
  have BD2 := hide (B2.out.trans (BD.out.mono hS2))
  have s0 := CB.out _ BD2.out
  refine wp_region_noPanic ?_
  refine wp_region_last (n := 22) (S := (fun w' => w'.cell? ⟨b0, off0, none⟩ = some (.int .u8 (t0 : Int)) ∧ w'.cell? ⟨b0, off0 + 1, none⟩ = some (.int .u8 (t1 : Int)) ∧ w'.cell? ⟨b0, off0 + 2, none⟩ = some (.int .u8 (t2 : Int)) ∧ w'.cell? ⟨b0, off0 + 3, none⟩ = some (.int .u8 (t3 : Int)))) (by kernel_rfl) (by rfl) (by kernel_rfl) ?_ (fun hHeld => ?_)
  · ((try dsimp only) <;> (first | trivial | assumption | go_keep))
  clear s0
  refine wpAnyH_take (i := 0) (v := ?_) (by simp only [List.getElem?_toArray, List.getElem?_cons_zero]; rfl) (by kernel_rfl) (by kernel_rfl) (by kernel_rfl) (fun _ _ _ h => h) (Or.inl ⟨by rfl, ?_⟩) (by assumption) ?_
  rotate_left 1
  · (intro w hSw; (try dsimp only at hSw); go_simp; try with_reducible rfl)
  try simp only [Act.put, List.setIfInBounds_toArray, List.set_cons_zero, List.set_cons_succ]
  refine wpAnyH_take (i := 1) (v := ?_) (by simp only [List.getElem?_toArray, List.getElem?_cons_succ, List.getElem?_cons_zero]; rfl) (by kernel_rfl) (by kernel_rfl) (by kernel_rfl) (fun _ _ _ h => h) (Or.inl ⟨by rfl, ?_⟩) (by assumption) ?_
  rotate_left 1
  · (intro w hSw; (try dsimp only at hSw); go_simp; try with_reducible rfl)
  try simp only [Act.put, List.setIfInBounds_toArray, List.set_cons_zero, List.set_cons_succ]
  refine wpAnyH_take (i := 2) (v := ?_) (by simp only [List.getElem?_toArray, List.getElem?_cons_succ, List.getElem?_cons_zero]; rfl) (by kernel_rfl) (by kernel_rfl) (by kernel_rfl) (fun _ _ _ h => h) (Or.inl ⟨by rfl, ?_⟩) (by assumption) ?_
  rotate_left 1
  · (intro w hSw; (try dsimp only at hSw); go_simp; try with_reducible rfl)
  try simp only [Act.put, List.setIfInBounds_toArray, List.set_cons_zero, List.set_cons_succ]
  refine wpAnyH_take (i := 3) (v := ?_) (by simp only [List.getElem?_toArray, List.getElem?_cons_succ, List.getElem?_cons_zero]; rfl) (by kernel_rfl) (by kernel_rfl) (by kernel_rfl) (fun _ _ _ h => h) (Or.inl ⟨by rfl, ?_⟩) (by assumption) ?_
  rotate_left 1
  · (intro w hSw; (try dsimp only at hSw); go_simp; try with_reducible rfl)
  try simp only [Act.put, List.setIfInBounds_toArray, List.set_cons_zero, List.set_cons_succ]
  refine wpAnyH_take (i := 4) (v := ?_) (by simp only [List.getElem?_toArray, List.getElem?_cons_succ, List.getElem?_cons_zero]; rfl) (by kernel_rfl) (by kernel_rfl) (by kernel_rfl) (fun _ _ _ h => h) (Or.inl ⟨by rfl, ?_⟩) (by assumption) ?_
  rotate_left 1
  · (intro w hSw; (try dsimp only at hSw); go_simp; try with_reducible rfl)
  try simp only [Act.put, List.setIfInBounds_toArray, List.set_cons_zero, List.set_cons_succ]
  refine wpAnyH_take (i := 5) (v := ?_) (by simp only [List.getElem?_toArray, List.getElem?_cons_succ, List.getElem?_cons_zero]; rfl) (by kernel_rfl) (by kernel_rfl) (by kernel_rfl) (fun _ _ _ h => h) (Or.inl ⟨by rfl, ?_⟩) (by assumption) ?_
  rotate_left 1
  · (intro w hSw; (try dsimp only at hSw); go_simp; try with_reducible rfl)
  try simp only [Act.put, List.setIfInBounds_toArray, List.set_cons_zero, List.set_cons_succ]
  refine wpAnyH_take (i := 6) (v := ?_) (by simp only [List.getElem?_toArray, List.getElem?_cons_succ, List.getElem?_cons_zero]; rfl) (by kernel_rfl) (by kernel_rfl) (by kernel_rfl) (fun _ _ _ h => h) (Or.inl ⟨by rfl, ?_⟩) (by assumption) ?_
  rotate_left 1
  · (intro w hSw; (try dsimp only at hSw); go_simp; try with_reducible rfl)
  try simp only [Act.put, List.setIfInBounds_toArray, List.set_cons_zero, List.set_cons_succ]
  refine wpAnyH_take (i := 7) (v := ?_) (by simp only [List.getElem?_toArray, List.getElem?_cons_succ, List.getElem?_cons_zero]; rfl) (by kernel_rfl) (by kernel_rfl) (by kernel_rfl) (fun _ _ _ h => h) (Or.inl ⟨by rfl, ?_⟩) (by assumption) ?_
  rotate_left 1
  · (intro w hSw; (try dsimp only at hSw); go_simp; try with_reducible rfl)
  try simp only [Act.put, List.setIfInBounds_toArray, List.set_cons_zero, List.set_cons_succ]
  refine wpAnyH_take (i := 8) (v := ?_) (by simp only [List.getElem?_toArray, List.getElem?_cons_succ, List.getElem?_cons_zero]; rfl) (by kernel_rfl) (by kernel_rfl) (by kernel_rfl) (fun _ _ _ h => h) (Or.inl ⟨by rfl, ?_⟩) (by assumption) ?_
  rotate_left 1
  · (intro w hSw; (try dsimp only at hSw); go_simp; try with_reducible rfl)
  try simp only [Act.put, List.setIfInBounds_toArray, List.set_cons_zero, List.set_cons_succ]
  refine wpAnyH_take (i := 9) (v := ?_) (by simp only [List.getElem?_toArray, List.getElem?_cons_succ, List.getElem?_cons_zero]; rfl) (by kernel_rfl) (by kernel_rfl) (by kernel_rfl) (fun _ _ _ h => h) (Or.inl ⟨by rfl, ?_⟩) (by assumption) ?_
  rotate_left 1
  · (intro w hSw; (try dsimp only at hSw); go_simp; try with_reducible rfl)
  try simp only [Act.put, List.setIfInBounds_toArray, List.set_cons_zero, List.set_cons_succ]
  refine wpAnyH_take (i := 10) (v := ?_) (by simp only [List.getElem?_toArray, List.getElem?_cons_succ, List.getElem?_cons_zero]; rfl) (by kernel_rfl) (by kernel_rfl) (by kernel_rfl) (fun _ _ _ h => h) (Or.inl ⟨by rfl, ?_⟩) (by assumption) ?_
  rotate_left 1
  · (intro w hSw; (try dsimp only at hSw); go_simp; try with_reducible rfl)
  try simp only [Act.put, List.setIfInBounds_toArray, List.set_cons_zero, List.set_cons_succ]
  refine wpAnyH_take (i := 11) (v := ?_) (by simp only [List.getElem?_toArray, List.getElem?_cons_succ, List.getElem?_cons_zero]; rfl) (by kernel_rfl) (by kernel_rfl) (by kernel_rfl) (fun _ _ _ h => h) (Or.inl ⟨by rfl, ?_⟩) (by assumption) ?_
  rotate_left 1
  · (intro w hSw; (try dsimp only at hSw); go_simp; try with_reducible rfl)
  try simp only [Act.put, List.setIfInBounds_toArray, List.set_cons_zero, List.set_cons_succ]
  refine wpAnyH_take (i := 12) (v := ?_) (by simp only [List.getElem?_toArray, List.getElem?_cons_succ, List.getElem?_cons_zero]; rfl) (by kernel_rfl) (by kernel_rfl) (by kernel_rfl) (fun _ _ _ h => h) (Or.inl ⟨by rfl, ?_⟩) (by assumption) ?_
  rotate_left 1
  · (intro w hSw; (try dsimp only at hSw); go_simp; try with_reducible rfl)
  try simp only [Act.put, List.setIfInBounds_toArray, List.set_cons_zero, List.set_cons_succ]
  refine wpAnyH_take (i := 13) (v := ?_) (by simp only [List.getElem?_toArray, List.getElem?_cons_succ, List.getElem?_cons_zero]; rfl) (by kernel_rfl) (by kernel_rfl) (by kernel_rfl) (fun _ _ _ h => h) (Or.inl ⟨by rfl, ?_⟩) (by assumption) ?_
  rotate_left 1
  · (intro w hSw; (try dsimp only at hSw); go_simp; try with_reducible rfl)
  try simp only [Act.put, List.setIfInBounds_toArray, List.set_cons_zero, List.set_cons_succ]
  refine wpAnyH_take (i := 14) (v := ?_) (by simp only [List.getElem?_toArray, List.getElem?_cons_succ, List.getElem?_cons_zero]; rfl) (by kernel_rfl) (by kernel_rfl) (by kernel_rfl) (fun _ _ _ h => h) (Or.inl ⟨by rfl, ?_⟩) (by assumption) ?_
  rotate_left 1
  · (intro w hSw; (try dsimp only at hSw); go_simp; try with_reducible rfl)
  try simp only [Act.put, List.setIfInBounds_toArray, List.set_cons_zero, List.set_cons_succ]
  refine wpAnyH_take (i := 15) (v := ?_) (by simp only [List.getElem?_toArray, List.getElem?_cons_succ, List.getElem?_cons_zero]; rfl) (by kernel_rfl) (by kernel_rfl) (by kernel_rfl) (fun _ _ _ h => h) (Or.inl ⟨by rfl, ?_⟩) (by assumption) ?_
  rotate_left 1
  · (intro w hSw; (try dsimp only at hSw); go_simp; try with_reducible rfl)
  try simp only [Act.put, List.setIfInBounds_toArray, List.set_cons_zero, List.set_cons_succ]
  refine wpAnyH_take (i := 16) (v := ?_) (by simp only [List.getElem?_toArray, List.getElem?_cons_succ, List.getElem?_cons_zero]; rfl) (by kernel_rfl) (by kernel_rfl) (by kernel_rfl) (fun _ _ _ h => h) (Or.inl ⟨by rfl, ?_⟩) (by assumption) ?_
  rotate_left 1
  · (intro w hSw; (try dsimp only at hSw); go_simp; try with_reducible rfl)
  try simp only [Act.put, List.setIfInBounds_toArray, List.set_cons_zero, List.set_cons_succ]
  refine wpAnyH_take (i := 17) (v := ?_) (by simp only [List.getElem?_toArray, List.getElem?_cons_succ, List.getElem?_cons_zero]; rfl) (by kernel_rfl) (by kernel_rfl) (by kernel_rfl) (fun _ _ _ h => h) (Or.inl ⟨by rfl, ?_⟩) (by assumption) ?_
  rotate_left 1
  · (intro w hSw; (try dsimp only at hSw); go_simp; try with_reducible rfl)
  try simp only [Act.put, List.setIfInBounds_toArray, List.set_cons_zero, List.set_cons_succ]
  refine wpAnyH_take (i := 18) (v := ?_) (by simp only [List.getElem?_toArray, List.getElem?_cons_succ, List.getElem?_cons_zero]; rfl) (by kernel_rfl) (by kernel_rfl) (by kernel_rfl) (fun _ _ _ h => h) (Or.inl ⟨by rfl, ?_⟩) (by assumption) ?_
  rotate_left 1
  · (intro w hSw; (try dsimp only at hSw); go_simp; try with_reducible rfl)
  try simp only [Act.put, List.setIfInBounds_toArray, List.set_cons_zero, List.set_cons_succ]
  refine wpAnyH_take (i := 19) (v := ?_) (by simp only [List.getElem?_toArray, List.getElem?_cons_succ, List.getElem?_cons_zero]; rfl) (by kernel_rfl) (by kernel_rfl) (by kernel_rfl) (fun _ _ _ h => h) (Or.inl ⟨by rfl, ?_⟩) (by assumption) ?_
  rotate_left 1
  · (intro w hSw; (try dsimp only at hSw); go_simp; try with_reducible rfl)
  try simp only [Act.put, List.setIfInBounds_toArray, List.set_cons_zero, List.set_cons_succ]
  refine wpAnyH_take (i := 20) (v := ?_) (by simp only [List.getElem?_toArray, List.getElem?_cons_succ, List.getElem?_cons_zero]; rfl) (by kernel_rfl) (by kernel_rfl) (by kernel_rfl) (fun _ _ _ h => h) (Or.inl ⟨by rfl, ?_⟩) (by assumption) ?_
  rotate_left 1
  · (intro w hSw; (try dsimp only at hSw); go_simp; try with_reducible rfl)
  try simp only [Act.put, List.setIfInBounds_toArray, List.set_cons_zero, List.set_cons_succ]
  clear e0 e1 e2 e3 e4 e5 e6 e7
  refine wpAnyH_ready (rs := [21]) (by kernel_rfl) (by simp) ?_
  refine AllReadyH.cons (by simp only [List.getElem?_toArray, List.getElem?_cons_succ, List.getElem?_cons_zero]; rfl) (fun K hK => ?_) ?_
  rotate_left 1
  · exact AllReadyH.nil
  go_simp
  refine hK.out _ _ ?_ (fun hHeld2 => ?_)
  · ((try dsimp only) <;> (exact CB.out _ (BD2.out.alloc hS2 _)))
  clear hHeld
  have hHeld := hHeld2
  clear hHeld2 hK K
  try simp only [Act.put, List.setIfInBounds_toArray, List.set_cons_zero, List.set_cons_succ]
  clear hHeld
  obtain ⟨w3, hw3⟩ : ∃ W, W = (w2.alloc (.cells #[.int .i64 0, .int .i64 0, .int .i64 0, .int .i64 0, .int .i64 0, .slice none 0 0, .slice none 0 0] 25)).drew := ⟨_, rfl⟩
  have KP : Hid (Blk w3 w2.heap.size 25 #[.int .i64 0, .int .i64 0, .int .i64 0, .int .i64 0, .int .i64 0, .slice none 0 0, .slice none 0 0]) := hide (by rw [hw3]; exact (Blk.new w2 _ _).drew)
  have b3 : Below w2.heap.size w2 w3 := by rw [hw3]; exact ((Below.refl w2.heap.size w2).alloc (Nat.le_refl _) _).drew
  have L3 := hide (show w3.heap.size = S + 2 by rw [hw3]; show (w2.alloc _).heap.size = _; rw [World.size_alloc, L2.out])
  rw [← hw3, L2.out]
  rw [L2.out] at KP
  have KZ3 := hide (KZ.out.below b3)
  have B3 := hide (B2.out.trans (b3.mono hS2))
  clear hw3 b3 BD BD2 CB hS2 L2 KZ B2
  clear w2
  have z0 := KP.out.cell 0
  have z1 := KP.out.cell 1
  have z2 := KP.out.cell 2
  have z3 := KP.out.cell 3
  have z4 := KP.out.cell 4
  have z5 := KP.out.cell 5
  have z6 := KP.out.cell 6
  simp only [List.getElem?_toArray, List.getElem?_cons_succ, List.getElem?_cons_zero] at z0 z1 z2 z3 z4 z5 z6
  have f0 := KP.out.frozen 0
  have f1 := KP.out.frozen 1
  have f2 := KP.out.frozen 2
  have f3 := KP.out.frozen 3
  have f4 := KP.out.frozen 4
  have f5 := KP.out.frozen 5
  have f6 := KP.out.frozen 6
  refine wpAnyH_done (by kernel_rfl) ?_ _
  refine LastQ.step (by simp only [List.getElem?_toArray, List.getElem?_cons_succ, List.getElem?_cons_zero]; rfl) (by rfl) ?_
  go_simp
  refine NoPanic.normal ?_
  clear z0 z1 z2 z3 z4 z5 z6 f0 f1 f2 f3 f4 f5 f6
  obtain ⟨e, he⟩ : ∃ e : Nat, e = nx 2 l := ⟨_, rfl⟩
  obtain ⟨cc, hcc⟩ : ∃ e : Nat, e = nx 2 (l.drop 2) := ⟨_, rfl⟩
  have HEC := hide (And.intro he hcc)
  have q1 : (t0 : Int) + 256 * (t1 : Int) = (e : Int) := by rw [he, HE.out.1]; omega
  have q2 : (t2 : Int) + 256 * (t3 : Int) = (cc : Int) := by rw [hcc, HE.out.2]; omega
  rw [q1, q2]
  have PS := part_set7 KP.out (.int .i64 (e : Int)) (.int .i64 (cc : Int)) (.int .i64 0) (.int .i64 0) (.int .i64 0) (.slice none 0 0) (.slice none 0 0)
  generalize ((((((w3.setCell ⟨S + 1, 0, none⟩ (.int .i64 (e : Int))).setCell ⟨S + 1, 1, none⟩ (.int .i64 (cc : Int))).setCell ⟨S + 1, 2, none⟩ (.int .i64 0)).setCell ⟨S + 1, 3, none⟩ (.int .i64 0)).setCell ⟨S + 1, 4, none⟩ (.int .i64 0)).setCell ⟨S + 1, 5, none⟩ (.slice none 0 0)).setCell ⟨S + 1, 6, none⟩ (.slice none 0 0) = w5 at *
  have KP5 := hide PS.1
  have KZ5 := hide (KZ3.out.kp PS.2 (by simp))
  have B5 := hide (B3.out.trans (PS.2.below (by rw [L3.out]; omega) (by simp)))
  have L5 := hide (show S + 2 ≤ w5.heap.size by rw [← L3.out]; exact PS.2.size)
  clear he hcc q1 q2 PS KP KZ3 B3 L3 HE k0 k1 k2 k3
  clear w3
  generalize (t0 : Int) = y0
  generalize (t1 : Int) = y1
  generalize (t2 : Int) = y2
  generalize (t3 : Int) = y3
  go_wp2_with fail
  go_loopw [6, 7] (fun v y wr => ∃ (s kr : Nat) (Ar : Option Addr), s ≤ 8 ∧ y = .int .i64 (s : Int) ∧ v = .slice Ar (11 * s) kr ∧ OwnBy wr w5.heap.size Ar (11 * s) kr ((List.range s).flatMap fun t => (l.drop (16 * t + 5)).take 11) ∧ Below w5.heap.size w5 wr) (fun _ y _ => 8 - (intOf y).toNat)
  case atStart => exact ⟨0, 0, none, by omega, rfl, rfl, World.ownsRow_nil _ _ _ _, Below.refl _ _⟩
  case round =>
    obtain ⟨s, kr, Ar, hs, rfl, rfl, ho, hb⟩ := hrel
    have O7 := hide ho
    have B75 := hide hb
    have B7 := hide (B5.out.trans (hb.mono (by have := L5.out; omega)))
    clear ho hb
    by_cases hls : s < 8
    · have hss : (s : Int) < 8 := by omega
      have hs64 : IntKind.i64.wrap (s : Int) = (s : Int) := by rw [IntKind.wrap_i64]; omega
      have h0 : IntKind.i64.wrap (16 * (s : Int)) = 16 * (s : Int) := by rw [IntKind.wrap_i64]; omega
      have h5 : IntKind.i64.wrap (16 * (s : Int) + 5) = 16 * (s : Int) + 5 := by rw [IntKind.wrap_i64]; omega
      have h16 : IntKind.i64.wrap (16 * (s : Int) + 16) = 16 * (s : Int) + 16 := by rw [IntKind.wrap_i64]; omega
      have hcut : ∀ W : World, (Instr.slice 30 (.slice (some ⟨b0, off0, none⟩) 128 c) (some (.int .i64 (16 * (s : Int) + 5))) (some (.int .i64 (16 * (s : Int) + 16))) none).run Tryd.prog W = .ok (.slice (cutA (some ⟨b0, off0, none⟩) c (16 * s + 5)) 11 (c - (16 * s + 5))) W := fun W => by
        have := run_cut_lh (P := Tryd.prog) etyB (some ⟨b0, off0, none⟩) 128 c W (16 * s + 5) (16 * s + 16) .i64 .i64 (by omega) (by have := HC.out.1; omega)
        rw [show 16 * s + 16 - (16 * s + 5) = 11 by omega] at this
        rw [show 16 * (s : Int) + 5 = ((16 * s + 5 : Nat) : Int) by omega, show 16 * (s : Int) + 16 = ((16 * s + 16 : Nat) : Int) by omega]
        exact this
      have SL := hide (show By wr wr.heap.size (cutA (some ⟨b0, off0, none⟩) c (16 * s + 5)) 11 ((l.drop (16 * s + 5)).take 11) by
        have h1 := ByT.cut (m := 16 * s + 5) (HBy.out wr B7.out) (by omega) HC.out.1
        have h2 := ByT.head (m := 11) h1 (by omega)
        exact RwAt.sl h2)
      generalize cutA (some ⟨b0, off0, none⟩) c (16 * s + 5) = CA at *
      go_wp2_with (
        at_builtin
        refine wpList_appB (.tmp 44) (.tmp 52) O7.out SL.out B75.out rfl rfl rfl rfl (by omega) B75.out.size ?_
        intro A9 k9 w9 O9 B9)
      clear hcut
      go_roundw
      case rel =>
        refine ⟨s + 1, k9, A9, by omega, by go_num, by rw [show 11 * (s + 1) = 11 * s + 11 from by omega], ?_, B9.out⟩
        have h1 := O9.out
        rw [show 11 * (s + 1) = 11 * s + 11 from by omega, List.range_succ, List.flatMap_append]
        simpa using h1
      case measure => simp [intOf]; omega
    · have hs8 : s = 8 := by omega
      have hss : ¬ (s : Int) < 8 := by omega
      obtain ⟨W, hW⟩ : ∃ W, W = unB l := ⟨_, rfl⟩
      have HW := hide hW
      obtain ⟨N, hN⟩ : ∃ N, N = 11 * s := ⟨_, rfl⟩
      have HN := hide (show N = 88 by omega)
      have hN1 : N ≤ 1000000 := by omega
      obtain ⟨w6, hw6⟩ : ∃ W, W = wr := ⟨_, rfl⟩
      subst hw6
      have OW6 := hide (show OwnBy w6 w5.heap.size Ar N kr W by
        have h1 := O7.out
        rw [← hN] at h1
        rw [hW]
        unfold unB
        rw [← hs8]
        exact h1)
      have KP := hide (KP5.out.below B75.out)
      have KZ := hide (KZ5.out.below B75.out)
      have BN := hide B7.out
      have SZ := hide (Nat.le_trans L5.out B75.out.size)
      have BY := hide (own_byS OW6.out)
      rw [← hN]
      clear hW hN hs8 O7 KP5 KZ5 B75 B7 B5
      go_wp2_with fail
      refine (at_anyZ Ar N kr (0) W _ w6 BY.out (by omega) hN1 _ (by omega)).mono ?_
      rintro r w' ⟨rfl, hw⟩
      rw [hw]
      clear hw w'
      obtain ⟨x0, hx⟩ : ∃ x : Nat, x = nx 1 (W.drop (0)) := ⟨_, rfl⟩
      have Hx0 := hide hx
      have bx0 : x0 < 256 := by rw [hx]; exact nx1_lt _
      rw [← hx]
      clear hx
      have y2' := KP.out.cell 2
      have f2' := KP.out.frozen 2
      simp only [List.getElem?_toArray, List.getElem?_cons_succ, List.getElem?_cons_zero] at y2'
      go_upto_region 10 with fail
      clear y2' f2'
      obtain ⟨w7, hw⟩ : ∃ W, W = w6.setCell ⟨S + 1, 2, none⟩ (.int .i64 (x0 : Int)) := ⟨_, rfl⟩
      have hkS : Kp [S + 1] w6 w7 := by rw [hw]; exact (Kp.refl [S + 1] w6).set (p := ⟨S + 1, 2, none⟩) (.inl (by simp)) _
      replace KP : Hid (Blk w7 (S + 1) 25 #[.int .i64 (e : Int), .int .i64 (cc : Int), .int .i64 (x0 : Int), .int .i64 0, .int .i64 0, .slice none 0 0, .slice none 0 0]) := hide (by rw [hw]; simpa [List.setIfInBounds_toArray] using KP.out.set 2 (.int .i64 (x0 : Int)))
      rw [← hw]
      clear hw
      replace KZ := hide (KZ.out.kp hkS (by simp))
      replace OW6 := hide (own_kq OW6.out hkS (fun g hg => by have h1 := (OW6.out.lt g hg).1; have h2 := L5.out; simp only [List.mem_singleton]; omega))
      replace BY := hide (own_byS OW6.out)
      replace BN := hide (BN.out.trans (hkS.below (by have := SZ.out; omega) (by simp)))
      replace SZ := hide (Nat.le_trans SZ.out hkS.size)
      clear hkS
      go_wp2_with fail
      refine (at_anyZ Ar N kr (1) W _ w7 BY.out (by omega) hN1 _ (by omega)).mono ?_
      rintro r w' ⟨rfl, hw⟩
      rw [hw]
      clear hw w'
      obtain ⟨x1, hx⟩ : ∃ x : Nat, x = nx 1 (W.drop (1)) := ⟨_, rfl⟩
      have Hx1 := hide hx
      have bx1 : x1 < 256 := by rw [hx]; exact nx1_lt _
      rw [← hx]
      clear hx
      have y3' := KP.out.cell 3
      have f3' := KP.out.frozen 3
      simp only [List.getElem?_toArray, List.getElem?_cons_succ, List.getElem?_cons_zero] at y3'
      go_upto_region 11 with fail
      clear y3' f3'
      obtain ⟨w8, hw⟩ : ∃ W, W = w7.setCell ⟨S + 1, 3, none⟩ (.int .i64 (x1 : Int)) := ⟨_, rfl⟩
      have hkS : Kp [S + 1] w7 w8 := by rw [hw]; exact (Kp.refl [S + 1] w7).set (p := ⟨S + 1, 3, none⟩) (.inl (by simp)) _
      replace KP : Hid (Blk w8 (S + 1) 25 #[.int .i64 (e : Int), .int .i64 (cc : Int), .int .i64 (x0 : Int), .int .i64 (x1 : Int), .int .i64 0, .slice none 0 0, .slice none 0 0]) := hide (by rw [hw]; simpa [List.setIfInBounds_toArray] using KP.out.set 3 (.int .i64 (x1 : Int)))
      rw [← hw]
      clear hw
      replace KZ := hide (KZ.out.kp hkS (by simp))
      replace OW6 := hide (own_kq OW6.out hkS (fun g hg => by have h1 := (OW6.out.lt g hg).1; have h2 := L5.out; simp only [List.mem_singleton]; omega))
      replace BY := hide (own_byS OW6.out)
      replace BN := hide (BN.out.trans (hkS.below (by have := SZ.out; omega) (by simp)))
      replace SZ := hide (Nat.le_trans SZ.out hkS.size)
      clear hkS
      go_wp2_with fail
      refine (at_anyZ Ar N kr (2) W _ w8 BY.out (by omega) hN1 _ (by omega)).mono ?_
      rintro r w' ⟨rfl, hw⟩
      rw [hw]
      clear hw w'
      obtain ⟨xa, hx⟩ : ∃ x : Nat, x = nx 1 (W.drop (2)) := ⟨_, rfl⟩
      have Hxa := hide hx
      have bxa : xa < 256 := by rw [hx]; exact nx1_lt _
      rw [← hx]
      clear hx
      go_wp2_with fail
      refine (at_anyZ Ar N kr (3) W _ w8 BY.out (by omega) hN1 _ (by omega)).mono ?_
      rintro r w' ⟨rfl, hw⟩
      rw [hw]
      clear hw w'
      obtain ⟨xb, hx⟩ : ∃ x : Nat, x = nx 1 (W.drop (3)) := ⟨_, rfl⟩
      have Hxb := hide hx
      have bxb : xb < 256 := by rw [hx]; exact nx1_lt _
      rw [← hx]
      clear hx
      have g1 : IntKind.i64.wrap (256 * (xb : Int)) = 256 * (xb : Int) := by rw [IntKind.wrap_i64]; omega
      have g2 : IntKind.i64.wrap ((xa : Int) + 256 * (xb : Int)) = (xa : Int) + 256 * (xb : Int) := by rw [IntKind.wrap_i64]; omega
      obtain ⟨x2, hx2⟩ : ∃ x : Nat, x = nx 2 (W.drop 2) := ⟨_, rfl⟩
      have g3 : (xa : Int) + 256 * (xb : Int) = (x2 : Int) := by rw [hx2, nx2_at, ← Hxa.out, ← Hxb.out]; omega
      have Hx2 := hide hx2
      rw [g3] at g2
      clear hx2
      have y4' := KP.out.cell 4
      have f4' := KP.out.frozen 4
      simp only [List.getElem?_toArray, List.getElem?_cons_succ, List.getElem?_cons_zero] at y4'
      go_upto_region 12 with fail
      clear y4' f4'
      obtain ⟨w9, hw⟩ : ∃ W, W = w8.setCell ⟨S + 1, 4, none⟩ (.int .i64 (x2 : Int)) := ⟨_, rfl⟩
      have hkS : Kp [S + 1] w8 w9 := by rw [hw]; exact (Kp.refl [S + 1] w8).set (p := ⟨S + 1, 4, none⟩) (.inl (by simp)) _
      replace KP : Hid (Blk w9 (S + 1) 25 #[.int .i64 (e : Int), .int .i64 (cc : Int), .int .i64 (x0 : Int), .int .i64 (x1 : Int), .int .i64 (x2 : Int), .slice none 0 0, .slice none 0 0]) := hide (by rw [hw]; simpa [List.setIfInBounds_toArray] using KP.out.set 4 (.int .i64 (x2 : Int)))
      rw [← hw]
      clear hw
      replace KZ := hide (KZ.out.kp hkS (by simp))
      replace OW6 := hide (own_kq OW6.out hkS (fun g hg => by have h1 := (OW6.out.lt g hg).1; have h2 := L5.out; simp only [List.mem_singleton]; omega))
      replace BY := hide (own_byS OW6.out)
      replace BN := hide (BN.out.trans (hkS.below (by have := SZ.out; omega) (by simp)))
      replace SZ := hide (Nat.le_trans SZ.out hkS.size)
      clear hkS
      clear g1 g2
      go_wp2_with fail
      refine (at_anyZ Ar N kr (6) W _ w9 BY.out (by omega) hN1 _ (by omega)).mono ?_
      rintro r w' ⟨rfl, hw⟩
      rw [hw]
      clear hw w'
      obtain ⟨s6, hx⟩ : ∃ x : Nat, x = nx 1 (W.drop (6)) := ⟨_, rfl⟩
      have Hs6 := hide hx
      have bs6 : s6 < 256 := by rw [hx]; exact nx1_lt _
      rw [← hx]
      clear hx
      have u0 : IntKind.u32.wrap (s6 : Int) = (s6 : Int) := by simp [IntKind.wrap, IntKind.bits, IntKind.signed]; omega
      go_wp2_with fail
      refine (at_anyZ Ar N kr (7) W _ w9 BY.out (by omega) hN1 _ (by omega)).mono ?_
      rintro r w' ⟨rfl, hw⟩
      rw [hw]
      clear hw w'
      obtain ⟨s7, hx⟩ : ∃ x : Nat, x = nx 1 (W.drop (7)) := ⟨_, rfl⟩
      have Hs7 := hide hx
      have bs7 : s7 < 256 := by rw [hx]; exact nx1_lt _
      rw [← hx]
      clear hx
      have u1 : IntKind.u32.wrap (s7 : Int) = (s7 : Int) := by simp [IntKind.wrap, IntKind.bits, IntKind.signed]; omega
      have v1 : IntKind.u32.wrap (256 * (s7 : Int)) = 256 * (s7 : Int) := by simp [IntKind.wrap, IntKind.bits, IntKind.signed]; omega
      have v2 : IntKind.u32.wrap ((s6 : Int) + 256 * (s7 : Int)) = (s6 : Int) + 256 * (s7 : Int) := by simp [IntKind.wrap, IntKind.bits, IntKind.signed]; omega
      go_wp2_with fail
      refine (at_anyZ Ar N kr (8) W _ w9 BY.out (by omega) hN1 _ (by omega)).mono ?_
      rintro r w' ⟨rfl, hw⟩
      rw [hw]
      clear hw w'
      obtain ⟨s8, hx⟩ : ∃ x : Nat, x = nx 1 (W.drop (8)) := ⟨_, rfl⟩
      have Hs8 := hide hx
      have bs8 : s8 < 256 := by rw [hx]; exact nx1_lt _
      rw [← hx]
      clear hx
      have u2 : IntKind.u32.wrap (s8 : Int) = (s8 : Int) := by simp [IntKind.wrap, IntKind.bits, IntKind.signed]; omega
      have v3 : IntKind.u32.wrap (65536 * (s8 : Int)) = 65536 * (s8 : Int) := by simp [IntKind.wrap, IntKind.bits, IntKind.signed]; omega
      have v4 : IntKind.u32.wrap ((s6 : Int) + 256 * (s7 : Int) + 65536 * (s8 : Int)) = (s6 : Int) + 256 * (s7 : Int) + 65536 * (s8 : Int) := by simp [IntKind.wrap, IntKind.bits, IntKind.signed]; omega
      go_wp2_with fail
      refine (at_anyZ Ar N kr (9) W _ w9 BY.out (by omega) hN1 _ (by omega)).mono ?_
      rintro r w' ⟨rfl, hw⟩
      rw [hw]
      clear hw w'
      obtain ⟨s9, hx⟩ : ∃ x : Nat, x = nx 1 (W.drop (9)) := ⟨_, rfl⟩
      have Hs9 := hide hx
      have bs9 : s9 < 256 := by rw [hx]; exact nx1_lt _
      rw [← hx]
      clear hx
      have u3 : IntKind.u32.wrap (s9 : Int) = (s9 : Int) := by simp [IntKind.wrap, IntKind.bits, IntKind.signed]; omega
      have v5 : IntKind.u32.wrap (16777216 * (s9 : Int)) = 16777216 * (s9 : Int) := by simp [IntKind.wrap, IntKind.bits, IntKind.signed]; omega
      obtain ⟨xs, hxs⟩ : ∃ x : Nat, x = nx 4 (W.drop 6) := ⟨_, rfl⟩
      have g4 : (s6 : Int) + 256 * (s7 : Int) + 65536 * (s8 : Int) + 16777216 * (s9 : Int) = (xs : Int) := by rw [hxs, nx4_at, ← Hs6.out, ← Hs7.out, ← Hs8.out, ← Hs9.out]; omega
      have v6 : IntKind.u32.wrap ((s6 : Int) + 256 * (s7 : Int) + 65536 * (s8 : Int) + 16777216 * (s9 : Int)) = (xs : Int) := by rw [← g4]; simp [IntKind.wrap, IntKind.bits, IntKind.signed]; omega
      have Hxs := hide hxs
      have hxs32 : xs < 4294967296 := by rw [hxs]; exact nx4_lt _
      clear hxs
      go_upto_region 13 with fail
      clear u0 u1 u2 u3 v1 v2 v3 v4 v5 v6 g4 bs6 bs7 bs8 bs9
      go_upto_region 15 with fail
      obtain ⟨xf, hxf⟩ : ∃ x : Nat, x = nx 1 (W.drop 4) := ⟨_, rfl⟩
      have Hxf := hide hxf
      have bxf : xf < 256 := by rw [hxf]; exact nx1_lt _
      obtain ⟨xi, hxi⟩ : ∃ x : Nat, x = nx 1 (W.drop 5) := ⟨_, rfl⟩
      have Hxi := hide hxi
      have bxi : xi < 256 := by rw [hxi]; exact nx1_lt _
      clear hxf hxi
      have lf := fun w xs h => one_slice etyF w xs h (by decide)
      go_loopw [9, 10] (fun u v wr => ∃ (j i d n' : Nat) (Af : Option Addr) (cs : List (List Value)) (fsj : List FI), j ≤ xf ∧ u = .int .i64 (i : Int) ∧ v = .int .i64 (j : Int) ∧ rFs W j = (fsj, i) ∧ Blk wr (S + 1) 25 #[.int .i64 (e : Int), .int .i64 (cc : Int), .int .i64 (x0 : Int), .int .i64 (x1 : Int), .int .i64 (x2 : Int), .slice Af n' d, .slice none 0 0] ∧ ORow w9.heap.size wr Af n' d cs fsj ∧ Kp [S + 1] w9 wr) (fun _ v _ => xf - (intOf v).toNat)
      case atStart => exact ⟨0, 10, 0, 0, none, [], [], by omega, rfl, rfl, rfl, KP.out, ORow.nil, Kp.refl _ _⟩
      case round =>
        clear KP
        obtain ⟨j, i, d, n', Af, cs, fsj, hj, rfl, rfl, hrf, hP, hO, hk⟩ := hrel
        have RF := hide hrf
        have KP := hide hP
        have OR := hide hO
        have K2 := hide hk
        have hLN : n' ≤ 20 ∧ i ≤ 91 ∧ lsN fsj ≤ 100 := by
          have h1 := rFs_len W j
          rw [hrf] at h1
          have h2 := hO.l1
          dsimp only at h1
          omega
        obtain ⟨hn20, hi91, hls100⟩ := hLN
        have hOW := own_kq OW6.out hk (fun g hg => by have h1 := (OW6.out.lt g hg).1; have h2 := L5.out; simp only [List.mem_singleton]; omega)
        replace OW6 := hide hOW
        replace BY := hide (own_byS hOW)
        have hBN := BN.out.trans (hk.below (by have := SZ.out; omega) (by simp))
        have SZ2 := hide (Nat.le_trans SZ.out hk.size)
        have KZ2 := hide (KZ.out.kp hk (by simp))
        replace BN := hide hBN
        clear hrf hP hO hk hOW hBN
        by_cases hcnd : j < xf ∧ i < 88
        · obtain ⟨hlj, hi88⟩ := hcnd
          have hjs : (j : Int) < (xf : Int) := by omega
          have his : (i : Int) < 88 := by omega
          have hj64 : IntKind.i64.wrap (j : Int) = (j : Int) := by rw [IntKind.wrap_i64]; omega
          obtain ⟨wj, hwj⟩ : ∃ W, W = wr := ⟨_, rfl⟩
          subst hwj
          go_wp2_with fail
          refine (at_anyZ Ar N kr (4) W _ wj BY.out (by omega) hN1 _ (by omega)).mono ?_
          rintro r w' ⟨rfl, hw⟩
          rw [hw]
          clear hw w'
          rw [← Hxf.out]
          go_wp2_with fail
          refine (at_anyZ Ar N kr (i) W _ wj BY.out (by omega) hN1 _ (by omega)).mono ?_
          rintro r w' ⟨rfl, hw⟩
          rw [hw]
          clear hw w'
          obtain ⟨xa, hx⟩ : ∃ x : Nat, x = nx 1 (W.drop (i)) := ⟨_, rfl⟩
          have Hxa := hide hx
          have bxa : xa < 256 := by rw [hx]; exact nx1_lt _
          rw [← hx]
          clear hx
          have p1 : IntKind.i64.wrap ((i : Int) + 1) = (i : Int) + 1 := by rw [IntKind.wrap_i64]; omega
          go_wp2_with fail
          refine (at_anyZ Ar N kr (i + 1) W _ wj BY.out (by omega) hN1 _ (by omega)).mono ?_
          rintro r w' ⟨rfl, hw⟩
          rw [hw]
          clear hw w'
          obtain ⟨ya, hx⟩ : ∃ x : Nat, x = nx 1 (W.drop (i + 1)) := ⟨_, rfl⟩
          have Hya := hide hx
          have bya : ya < 256 := by rw [hx]; exact nx1_lt _
          rw [← hx]
          clear hx
          have p2 : IntKind.i64.wrap ((i : Int) + 2) = (i : Int) + 2 := by rw [IntKind.wrap_i64]; omega
          go_wp2_with fail
          refine (at_anyZ Ar N kr (i + 2) W _ wj BY.out (by omega) hN1 _ (by omega)).mono ?_
          rintro r w' ⟨rfl, hw⟩
          rw [hw]
          clear hw w'
          obtain ⟨yb, hx⟩ : ∃ x : Nat, x = nx 1 (W.drop (i + 2)) := ⟨_, rfl⟩
          have Hyb := hide hx
          have byb : yb < 256 := by rw [hx]; exact nx1_lt _
          rw [← hx]
          clear hx
          have g1 : IntKind.i64.wrap (256 * (yb : Int)) = 256 * (yb : Int) := by rw [IntKind.wrap_i64]; omega
          obtain ⟨xb, hxb⟩ : ∃ x : Nat, x = nx 2 (W.drop (i + 1)) := ⟨_, rfl⟩
          have g3 : (ya : Int) + 256 * (yb : Int) = (xb : Int) := by rw [hxb, nx2_at, ← Hya.out, ← Hyb.out]; omega
          have g2 : IntKind.i64.wrap ((ya : Int) + 256 * (yb : Int)) = (xb : Int) := by rw [IntKind.wrap_i64]; omega
          have Hxb := hide hxb
          clear hxb
          go_upto_region 18 with fail
          clear g1 g2 g3 p1 p2
          obtain ⟨w16, hw16⟩ : ∃ W, W = wj.alloc (.cells #[.int .i64 (xa : Int), .int .i64 (xb : Int), .slice none 0 0] 46) := ⟨_, rfl⟩
          have b16 := hide (show Below wj.heap.size wj w16 by rw [hw16]; exact (Below.refl _ _).alloc (Nat.le_refl _) _)
          have XF : Hid (Blk w16 wj.heap.size 46 #[.int .i64 (xa : Int), .int .i64 (xb : Int), .slice none 0 0]) := hide (by rw [hw16]; exact Blk.new _ _ _)
          rw [← hw16]
          clear hw16
          have OWJ := OW6
          replace OW6 := hide (own_bbR OWJ.out b16.out)
          replace BY := hide (own_byS OW6.out)
          have p3 : IntKind.i64.wrap ((i : Int) + 3) = (i : Int) + 3 := by rw [IntKind.wrap_i64]; omega
          go_wp2_with fail
          refine (at_anyZ Ar N kr (i + 3) W _ w16 BY.out (by omega) hN1 _ (by omega)).mono ?_
          rintro r w' ⟨rfl, hw⟩
          rw [hw]
          clear hw w'
          obtain ⟨m, hx⟩ : ∃ x : Nat, x = nx 1 (W.drop (i + 3)) := ⟨_, rfl⟩
          have Hm := hide hx
          have bm : m < 256 := by rw [hx]; exact nx1_lt _
          rw [← hx]
          clear hx
          have p4 : IntKind.i64.wrap ((i : Int) + 4) = (i : Int) + 4 := by rw [IntKind.wrap_i64]; omega
          obtain ⟨C, hC⟩ : ∃ C, C = rCnt m (i + 4) := ⟨_, rfl⟩
          have HC2 := hide hC
          have hCm : C ≤ m ∧ 2 * C ≤ 89 - (i + 4) ∧ (∀ q, q < C → q < m ∧ i + 4 + 2 * q < 88) ∧ (∀ q, q ≤ C → ¬ q < C → ¬ (q < m ∧ i + 4 + 2 * q < 88)) := by
            unfold rCnt at hC
            refine ⟨by omega, by omega, fun q hq => by omega, fun q hq hq2 => by omega⟩
          obtain ⟨hC1, hC2, hC3, hC4⟩ := hCm
          clear hC
          go_wp2_with fail
          clear p3 p4
          go_loopw [9, 13] (fun u v wr => ∃ (q d3 : Nat) (A3 : Option Addr), q ≤ C ∧ u = .int .i64 ((i : Int) + 4 + 2 * (q : Int)) ∧ v = .int .i64 (q : Int) ∧ Blk wr wj.heap.size 46 #[.int .i64 (xa : Int), .int .i64 (xb : Int), .slice A3 q d3] ∧ wr.ownsRow wj.heap.size 3 1 (.slice A3 q d3) q (intC (pLs q (W.drop (i + 4)))) ∧ Below wj.heap.size wj wr) (fun _ v _ => C - (intOf v).toNat)
          case atStart => exact ⟨0, 0, none, by omega, by simp, rfl, XF.out, World.ownsRow_nil _ _ _ _, b16.out⟩
          case round =>
            clear XF b16 OW6 BY
            obtain ⟨q, d3, A3, hq, rfl, rfl, hX, ho, hb⟩ := hrel
            have XF := hide hX
            have OW := hide ho
            have BJ := hide hb
            have OW6 := hide (own_bbR OWJ.out hb)
            have BY := hide (own_byS OW6.out)
            clear hX ho hb
            by_cases hlq : q < C
            · obtain ⟨hqm, hq88⟩ := hC3 q hlq
              have hqs : (q : Int) < (m : Int) := by omega
              have hqi : (i : Int) + 4 + 2 * (q : Int) < 88 := by omega
              have hq64 : IntKind.i64.wrap (q : Int) = (q : Int) := by rw [IntKind.wrap_i64]; omega
              have p1 : IntKind.i64.wrap ((i : Int) + 4 + 2 * (q : Int) + 1) = (i : Int) + 4 + 2 * (q : Int) + 1 := by rw [IntKind.wrap_i64]; omega
              have p2 : IntKind.i64.wrap ((i : Int) + 4 + 2 * (q : Int) + 2) = (i : Int) + 4 + 2 * (q : Int) + 2 := by rw [IntKind.wrap_i64]; omega
              have bd := (Below.refl wr.heap.size wr).drew
              have X8 := hide (XF.out.below bd)
              have O8 := hide (own_bel OW.out bd)
              have B8 := hide (BJ.out.drew)
              have Y8 := hide (Sl.drew BY.out)
              clear bd
              have z2 := XF.out.cell 2
              simp only [List.getElem?_toArray, List.getElem?_cons_succ, List.getElem?_cons_zero] at z2
              obtain ⟨ya, hya⟩ : ∃ x : Nat, x = nx 1 (W.drop (i + 4 + 2 * q)) := ⟨_, rfl⟩
              obtain ⟨yb, hyb⟩ : ∃ x : Nat, x = nx 1 (W.drop (i + 4 + 2 * q + 1)) := ⟨_, rfl⟩
              obtain ⟨xl, hxl⟩ : ∃ x : Nat, x = nx 2 ((W.drop (i + 4)).drop (2 * q)) := ⟨_, rfl⟩
              have g0 : ya < 256 ∧ yb < 256 ∧ xl = ya + 256 * yb := by
                refine ⟨by rw [hya]; exact nx1_lt _, by rw [hyb]; exact nx1_lt _, ?_⟩
                rw [hxl, List.drop_drop, nx2_at, ← hya, ← hyb]
              obtain ⟨g1, g2, g3⟩ := g0
              have HY := hide (And.intro hya hyb)
              have HXL := hide hxl
              have g4 : IntKind.i64.wrap (256 * (yb : Int)) = 256 * (yb : Int) := by rw [IntKind.wrap_i64]; omega
              have g5 : IntKind.i64.wrap ((ya : Int) + 256 * (yb : Int)) = (xl : Int) := by rw [IntKind.wrap_i64]; omega
              have g6 : IntKind.i64.wrap ((xl : Int) - 1000) = (xl : Int) - 1000 := by rw [IntKind.wrap_i64]; omega
              have hx6 : xl < 65536 := by omega
              clear hya hyb hxl g1 g2 g3
              go_wp2_with fail
              refine wp_region_noPanic ?_
              refine wp_region_last (n := 15) (S := (fun w' => w'.cell? ⟨wj.heap.size, 2, none⟩ = some (.slice A3 q d3))) (by kernel_rfl) (by rfl) (by kernel_rfl) ?_ (fun hHeld => ?_)
              · ((try dsimp only) <;> (first | trivial | assumption | go_keep))
              clear z2
              refine wpAnyH_take (i := 0) (v := ?_) (by simp only [List.getElem?_toArray, List.getElem?_cons_zero]; rfl) (by kernel_rfl) (by kernel_rfl) (by kernel_rfl) (fun _ _ _ h => h) (Or.inl ⟨by rfl, ?_⟩) (by assumption) ?_
              rotate_left 1
              · (intro w hSw; (try dsimp only at hSw); go_simp; try with_reducible rfl)
              try simp only [Act.put, List.setIfInBounds_toArray, List.set_cons_zero, List.set_cons_succ]
              refine wpAnyH_take (i := 1) (v := ?_) (by simp only [List.getElem?_toArray, List.getElem?_cons_succ, List.getElem?_cons_zero]; rfl) (by kernel_rfl) (by kernel_rfl) (by kernel_rfl) (fun _ _ _ h => h) (Or.inl ⟨by rfl, ?_⟩) (by assumption) ?_
              rotate_left 1
              · (intro w hSw; (try dsimp only at hSw); go_simp; try with_reducible rfl)
              try simp only [Act.put, List.setIfInBounds_toArray, List.set_cons_zero, List.set_cons_succ]
              refine wpAnyH_take (i := 2) (v := ?_) (by simp only [List.getElem?_toArray, List.getElem?_cons_succ, List.getElem?_cons_zero]; rfl) (by kernel_rfl) (by kernel_rfl) (by kernel_rfl) (fun _ _ _ h => h) (Or.inl ⟨by rfl, ?_⟩) (by assumption) ?_
              rotate_left 1
              · (intro w hSw; (try dsimp only at hSw); go_simp; try with_reducible rfl)
              try simp only [Act.put, List.setIfInBounds_toArray, List.set_cons_zero, List.set_cons_succ]
              refine wpAnyH_take (i := 3) (v := ?_) (by simp only [List.getElem?_toArray, List.getElem?_cons_succ, List.getElem?_cons_zero]; rfl) (by kernel_rfl) (by kernel_rfl) (by kernel_rfl) (fun _ _ _ h => h) (Or.inl ⟨by rfl, ?_⟩) (by assumption) ?_
              rotate_left 1
              · (intro w hSw; (try dsimp only at hSw); go_simp; try with_reducible rfl)
              try simp only [Act.put, List.setIfInBounds_toArray, List.set_cons_zero, List.set_cons_succ]
              refine wpAnyH_take (i := 5) (v := ?_) (by simp only [List.getElem?_toArray, List.getElem?_cons_succ, List.getElem?_cons_zero]; rfl) (by kernel_rfl) (by kernel_rfl) (by kernel_rfl) (fun _ _ _ h => h) (Or.inl ⟨by rfl, ?_⟩) (by assumption) ?_
              rotate_left 1
              · (intro w hSw; (try dsimp only at hSw); go_simp; try with_reducible rfl)
              try simp only [Act.put, List.setIfInBounds_toArray, List.set_cons_zero, List.set_cons_succ]
              refine wpAnyH_take (i := 6) (v := ?_) (by simp only [List.getElem?_toArray, List.getElem?_cons_succ, List.getElem?_cons_zero]; rfl) (by kernel_rfl) (by kernel_rfl) (by kernel_rfl) (fun _ _ _ h => h) (Or.inl ⟨by rfl, ?_⟩) (by assumption) ?_
              rotate_left 1
              · (intro w hSw; (try dsimp only at hSw); go_simp; try with_reducible rfl)
              try simp only [Act.put, List.setIfInBounds_toArray, List.set_cons_zero, List.set_cons_succ]
              refine wpAnyH_take (i := 7) (v := ?_) (by simp only [List.getElem?_toArray, List.getElem?_cons_succ, List.getElem?_cons_zero]; rfl) (by kernel_rfl) (by kernel_rfl) (by kernel_rfl) (fun _ _ _ h => h) (Or.inl ⟨by rfl, ?_⟩) (by assumption) ?_
              rotate_left 1
              · (intro w hSw; (try dsimp only at hSw); go_simp; try with_reducible rfl)
              try simp only [Act.put, List.setIfInBounds_toArray, List.set_cons_zero, List.set_cons_succ]
              refine wpAnyH_ready (rs := [4]) (by kernel_rfl) (by simp) ?_
              refine AllReadyH.cons (by simp only [List.getElem?_toArray, List.getElem?_cons_succ, List.getElem?_cons_zero]; rfl) (fun K hK => ?_) ?_
              rotate_left 1
              · exact AllReadyH.nil
              go_simp
              refine (at_anyZ Ar N kr (i + 4 + 2 * q) W _ wr.drew Y8.out (by omega) hN1 _ (by omega)).mono ?_; rintro r w' ⟨rfl, hw⟩; rw [hw]; clear hw w'; rw [← HY.out.1]
              refine hK.out _ _ ?_ (fun hHeld2 => ?_)
              · ((try dsimp only) <;> (exact X8.out.cell 2))
              clear hHeld
              have hHeld := hHeld2
              clear hHeld2 hK K
              try simp only [Act.put, List.setIfInBounds_toArray, List.set_cons_zero, List.set_cons_succ]
              refine wpAnyH_ready (rs := [8]) (by kernel_rfl) (by simp) ?_
              refine AllReadyH.cons (by simp only [List.getElem?_toArray, List.getElem?_cons_succ, List.getElem?_cons_zero]; rfl) (fun K hK => ?_) ?_
              rotate_left 1
              · exact AllReadyH.nil
              go_simp
              refine (at_anyZ Ar N kr (i + 4 + 2 * q + 1) W _ wr.drew Y8.out (by omega) hN1 _ (by omega)).mono ?_; rintro r w' ⟨rfl, hw⟩; rw [hw]; clear hw w'; rw [← HY.out.2]
              refine hK.out _ _ ?_ (fun hHeld2 => ?_)
              · ((try dsimp only) <;> (exact X8.out.cell 2))
              clear hHeld
              have hHeld := hHeld2
              clear hHeld2 hK K
              try simp only [Act.put, List.setIfInBounds_toArray, List.set_cons_zero, List.set_cons_succ]
              refine wpAnyH_take (i := 9) (v := ?_) (by simp only [List.getElem?_toArray, List.getElem?_cons_succ, List.getElem?_cons_zero]; rfl) (by kernel_rfl) (by kernel_rfl) (by kernel_rfl) (fun _ _ _ h => h) (Or.inl ⟨by rfl, ?_⟩) (by assumption) ?_
              rotate_left 1
              · (intro w hSw; (try dsimp only at hSw); go_simp; try with_reducible rfl)
              try simp only [Act.put, List.setIfInBounds_toArray, List.set_cons_zero, List.set_cons_succ]
              refine wpAnyH_take (i := 10) (v := ?_) (by simp only [List.getElem?_toArray, List.getElem?_cons_succ, List.getElem?_cons_zero]; rfl) (by kernel_rfl) (by kernel_rfl) (by kernel_rfl) (fun _ _ _ h => h) (Or.inl ⟨by rfl, ?_⟩) (by assumption) ?_
              rotate_left 1
              · (intro w hSw; (try dsimp only at hSw); go_simp; try with_reducible rfl)
              try simp only [Act.put, List.setIfInBounds_toArray, List.set_cons_zero, List.set_cons_succ]
              refine wpAnyH_take (i := 11) (v := ?_) (by simp only [List.getElem?_toArray, List.getElem?_cons_succ, List.getElem?_cons_zero]; rfl) (by kernel_rfl) (by kernel_rfl) (by kernel_rfl) (fun _ _ _ h => h) (Or.inl ⟨by rfl, ?_⟩) (by assumption) ?_
              rotate_left 1
              · (intro w hSw; (try dsimp only at hSw); go_simp; try with_reducible rfl)
              try simp only [Act.put, List.setIfInBounds_toArray, List.set_cons_zero, List.set_cons_succ]
              refine wpAnyH_ready (rs := [12]) (by kernel_rfl) (by simp) ?_
              refine AllReadyH.cons (by simp only [List.getElem?_toArray, List.getElem?_cons_succ, List.getElem?_cons_zero]; rfl) (fun K hK => ?_) ?_
              rotate_left 1
              · exact AllReadyH.nil
              go_simp
              refine hK.out _ _ ?_ (fun hHeld2 => ?_)
              · ((try dsimp only) <;> (exact (X8.out.alloc _).cell 2))
              clear hHeld
              have hHeld := hHeld2
              clear hHeld2 hK K
              try simp only [Act.put, List.setIfInBounds_toArray, List.set_cons_zero, List.set_cons_succ]
              have b19 := hide (((Below.refl wr.heap.size wr).alloc (Nat.le_refl _) (.cells #[.int .i64 ((xl : Int) - 1000)] 3)).drew)
              have X91 := hide (XF.out.below b19.out)
              have O91 := hide (own_bel OW.out b19.out)
              have B91 := hide (BJ.out.trans (b19.out.mono BJ.out.size))
              refine wpAnyH_ready (rs := [13]) (by kernel_rfl) (by simp) ?_
              refine AllReadyH.cons (by simp only [List.getElem?_toArray, List.getElem?_cons_succ, List.getElem?_cons_zero]; rfl) (fun K hK => ?_) ?_
              rotate_left 1
              · exact AllReadyH.nil
              refine step_app rfl (.tmp 125) (.tmp 136) _ (by rfl) etyJ wj.heap.size (.slice A3 q d3) q _ (by rfl) O91.out (wr.heap.size + 1) (some ⟨wr.heap.size, 0, none⟩) 1 1 (intC [(xl : Int) - 1000]) (by rfl) (etyJ1 wr _).drew (intC_one _) (by omega) B91.out.size ?_; intro A9 k9 w20 hown hg _; have X10 := hide (blk_grT X91.out O91.out (by decide) hg); have B10 := hide (bel_gr B91.out hg (fun k hk => (O91.out.lt k hk).1) B91.out.size); have O10 := hide hown; clear hown hg
              refine hK.out _ _ ?_ (fun hHeld2 => ?_)
              · ((try dsimp only) <;> (exact X10.out.cell 2))
              clear hHeld
              have hHeld := hHeld2
              clear hHeld2 hK K
              try simp only [Act.put, List.setIfInBounds_toArray, List.set_cons_zero, List.set_cons_succ]
              refine wpAnyH_take (i := 14) (v := ?_) (by simp only [List.getElem?_toArray, List.getElem?_cons_succ, List.getElem?_cons_zero]; rfl) (by kernel_rfl) (by kernel_rfl) (by kernel_rfl) (fun _ _ _ h => h) (Or.inl ⟨by rfl, ?_⟩) (by assumption) ?_
              rotate_left 1
              · (intro w hSw; (try dsimp only at hSw); go_simp; try with_reducible rfl)
              try simp only [Act.put, List.setIfInBounds_toArray, List.set_cons_zero, List.set_cons_succ]
              have z2 := X10.out.cell 2
              have f2 := X10.out.frozen 2
              simp only [List.getElem?_toArray, List.getElem?_cons_succ, List.getElem?_cons_zero] at z2
              refine wpAnyH_done (by kernel_rfl) ?_ _
              refine LastQ.step (by simp only [List.getElem?_toArray, List.getElem?_cons_succ, List.getElem?_cons_zero]; rfl) (by rfl) ?_
              go_simp
              refine NoPanic.normal ?_
              have hkF : Kp [wj.heap.size] w20 (w20.setCell ⟨wj.heap.size, 2, none⟩ (.slice A9 (q + 1) k9)) := (Kp.refl _ w20).set (p := ⟨wj.heap.size, 2, none⟩) (.inl (by simp)) _
              have B11 := hide (B10.out.setCell (p := ⟨wj.heap.size, 2, none⟩) (Nat.le_refl _) (.slice A9 (q + 1) k9))
              have X11 := hide (X10.out.set 2 (.slice A9 (q + 1) k9))
              have O11 := hide (own_kq O10.out hkF (fun g hg => by
                obtain ⟨-, cs', hB⟩ := own_blkT O10.out hg
                simp only [List.mem_singleton]
                rintro rfl
                exact absurd (Blk.type X10.out hB).1 (by decide)))
              clear hHeld z2 f2 X10 O10 B10 X91 O91 B91 b19 X8 O8 B8 Y8 hkF g4 g5 g6
              go_wp2_with fail
              refine ⟨⟨q + 1, k9, A9, by omega, by simp; omega, rfl, by simpa [List.setIfInBounds_toArray] using X11.out, ?_, B11.out⟩, by simp [intOf]; omega⟩
              have h1 := O11.out
              rw [intC_apps] at h1
              rw [pLs_succ, ← HXL.out]
              exact h1
            · have hqC : q = C := by omega
              have hend := hC4 q hq hlq
              obtain ⟨f, hf⟩ : ∃ f, f = rF W i := ⟨_, rfl⟩
              have HFV : Hid (f.ls.length = q ∧ f.ls = pLs q (W.drop (i + 4)) ∧ [Value.int .i64 (xa : Int), .int .i64 (xb : Int), .slice A3 q d3] = fiV f A3 d3) := hide (by
                have e1 : f.ls = pLs q (W.drop (i + 4)) := by rw [hf, hqC, HC2.out, Hm.out]; rfl
                have e2 : f.ls.length = q := by rw [e1, pLs_len]
                refine ⟨e2, e1, ?_⟩
                unfold fiV
                rw [e2, Hxa.out, Hxb.out, hf]
                rfl)
              have HPF := hide (show rFs W (j + 1) = (fsj ++ [f], i + 4 + 2 * q) from by
                rw [rFs, RF.out]
                dsimp only
                rw [if_pos hi88, ← hf]
                unfold rN
                rw [← Hm.out, ← HC2.out, ← hqC])
              have HQB := hide (show q < 256 by omega)
              clear hqC hf hC3 hC4
              have KW := hide (KP.out.below BJ.out)
              have OR1 := hide (OR.out.kp (Kp.of_below (gs := []) BJ.out) (by simp))
              have b21 := hide ((Below.refl wr.heap.size wr).alloc (Nat.le_refl _) (.cells #[.int .i64 (xa : Int), .int .i64 (xb : Int), .slice A3 q d3] 46))
              have OR2 := hide (OR1.out.kp (Kp.of_below (gs := []) b21.out) (by simp))
              have OW2 := hide (own_bel OW.out b21.out)
              have KW2 := hide (KW.out.below b21.out)
              have KK := hide ((K2.out.trans (Kp.of_below BJ.out)).trans (Kp.of_below b21.out))
              have SJ := hide (show w9.heap.size ≤ wj.heap.size from K2.out.size)
              have y5 := KW.out.cell 5
              have x1' := XF.out.cell 0
              have x2' := XF.out.cell 1
              have x3' := XF.out.cell 2
              simp only [List.getElem?_toArray, List.getElem?_cons_succ, List.getElem?_cons_zero] at y5 x1' x2' x3'
              clear KW OR1
              by_cases hqm : q < m
              · have hqs : (q : Int) < (m : Int) := by omega
                have hqi : ¬ (i : Int) + 4 + 2 * (q : Int) < 88 := by omega
                clear hend
                go_wp2_with (
                  at_builtin
                  refine wpList_appK rfl (.tmp 142) (.tmp 144) _ rfl etyF w9.heap.size (.slice Af n' d) n' cs.flatten rfl OR2.out.own (wr.heap.size + 1) (some ⟨wr.heap.size, 0, none⟩) 1 1 [.int .i64 (xa : Int), .int .i64 (xb : Int), .slice A3 q d3] rfl (slc_new wr [.int .i64 (xa : Int), .int .i64 (xb : Int), .slice A3 q d3] _ rfl) (by intro u hu; simp only [List.mem_cons, List.not_mem_nil, or_false] at hu; rcases hu with rfl | rfl | rfl <;> rfl) (by omega) KK.out.size ?_
                  intro A8 c8 w21 hown hg _
                  have OR3 := hide (OR2.out.app (f := f) (A3 := A3) (c3 := d3) SJ.out (fun i x g hx hg => (OR.out.lsb i x g hx hg).2) (by rw [HFV.out.1, HFV.out.2.1]; exact OW2.out) (by rw [← HFV.out.2.2]; exact hown) hg)
                  have KW3 := hide (blk_grT KW2.out OR2.out.own (by decide) hg)
                  have KK3 := hide (Kp.gr8 KK.out hg (fun g hg => (OR2.out.lt g hg).1))
                  have y5' := KW3.out.cell 5
                  have f5' := KW3.out.frozen 5
                  simp only [List.getElem?_toArray, List.getElem?_cons_succ, List.getElem?_cons_zero] at y5'
                  clear hown hg OR2 OW2 KW2 KK b21)
                clear y5 x1' x2' x3'
                have hkP : Kp [S + 1] w21 (w21.setCell ⟨S + 1, 5, none⟩ (.slice A8 (n' + 1) c8)) := (Kp.refl [S + 1] w21).set (p := ⟨S + 1, 5, none⟩) (.inl (by simp)) (.slice A8 (n' + 1) c8)
                go_roundw
                case rel =>
                  refine ⟨j + 1, i + 4 + 2 * q, c8, n' + 1, A8, cs ++ [fiV f A3 d3], fsj ++ [f], by omega, ?_, by go_num, HPF.out, by simpa [List.setIfInBounds_toArray] using KW3.out.set 5 (.slice A8 (n' + 1) c8), ?_, KK3.out.set (p := ⟨S + 1, 5, none⟩) (.inl (by simp)) _⟩
                  · congr 1
                  · exact OR3.out.kp hkP (by intro g hg; have := SZ.out; simp only [List.mem_singleton] at hg; omega)
                case measure => simp [intOf]; omega
              · have hqs : ¬ (q : Int) < (m : Int) := by omega
                clear hend
                go_wp2_with (
                  at_builtin
                  refine wpList_appK rfl (.tmp 142) (.tmp 144) _ rfl etyF w9.heap.size (.slice Af n' d) n' cs.flatten rfl OR2.out.own (wr.heap.size + 1) (some ⟨wr.heap.size, 0, none⟩) 1 1 [.int .i64 (xa : Int), .int .i64 (xb : Int), .slice A3 q d3] rfl (slc_new wr [.int .i64 (xa : Int), .int .i64 (xb : Int), .slice A3 q d3] _ rfl) (by intro u hu; simp only [List.mem_cons, List.not_mem_nil, or_false] at hu; rcases hu with rfl | rfl | rfl <;> rfl) (by omega) KK.out.size ?_
                  intro A8 c8 w21 hown hg _
                  have OR3 := hide (OR2.out.app (f := f) (A3 := A3) (c3 := d3) SJ.out (fun i x g hx hg => (OR.out.lsb i x g hx hg).2) (by rw [HFV.out.1, HFV.out.2.1]; exact OW2.out) (by rw [← HFV.out.2.2]; exact hown) hg)
                  have KW3 := hide (blk_grT KW2.out OR2.out.own (by decide) hg)
                  have KK3 := hide (Kp.gr8 KK.out hg (fun g hg => (OR2.out.lt g hg).1))
                  have y5' := KW3.out.cell 5
                  have f5' := KW3.out.frozen 5
                  simp only [List.getElem?_toArray, List.getElem?_cons_succ, List.getElem?_cons_zero] at y5'
                  clear hown hg OR2 OW2 KW2 KK b21)
                clear y5 x1' x2' x3'
                have hkP : Kp [S + 1] w21 (w21.setCell ⟨S + 1, 5, none⟩ (.slice A8 (n' + 1) c8)) := (Kp.refl [S + 1] w21).set (p := ⟨S + 1, 5, none⟩) (.inl (by simp)) (.slice A8 (n' + 1) c8)
                go_roundw
                case rel =>
                  refine ⟨j + 1, i + 4 + 2 * q, c8, n' + 1, A8, cs ++ [fiV f A3 d3], fsj ++ [f], by omega, ?_, by go_num, HPF.out, by simpa [List.setIfInBounds_toArray] using KW3.out.set 5 (.slice A8 (n' + 1) c8), ?_, KK3.out.set (p := ⟨S + 1, 5, none⟩) (.inl (by simp)) _⟩
                  · congr 1
                  · exact OR3.out.kp hkP (by intro g hg; have := SZ.out; simp only [List.mem_singleton] at hg; omega)
                case measure => simp [intOf]; omega
        · have HFS := hide (show rFs W xf = (fsj, i) by
            by_cases h : j < xf
            · have h2 := rFs_stop (W := W) (k := j) (by rw [RF.out]; dsimp only; omega) xf (by omega)
              rw [h2, RF.out]
            · have : j = xf := by omega
              rw [← this, RF.out])
          have HBD := hide (show ∀ f ∈ fsj, ∀ x ∈ f.ls, I64 x by
            have h1 := rFs_bd W j
            rw [RF.out] at h1
            intro f hf x hx
            have := h1 f hf x hx
            unfold I64
            omega)
          obtain ⟨wf, hwf⟩ : ∃ W, W = wr := ⟨_, rfl⟩
          subst hwf
          obtain ⟨C, hC⟩ : ∃ C, C = min xi (88 - i) := ⟨_, rfl⟩
          have HC2 := hide hC
          have hCm : C ≤ xi ∧ C ≤ 88 ∧ (∀ q, q < C → q < xi ∧ i + q < 88) ∧ (∀ q, q ≤ C → ¬ q < C → ¬ (q < xi ∧ i + q < 88)) := by
            refine ⟨by omega, by omega, fun q hq => by omega, fun q hq hq2 => by omega⟩
          obtain ⟨hC1, hC2, hC3, hC4⟩ := hCm
          clear hC lf
          by_cases hlj : j < xf
          · have hjs : (j : Int) < (xf : Int) := by omega
            have his : ¬ (i : Int) < 88 := by omega
            clear hcnd
            go_wp2_with fail
            refine (at_anyZ Ar N kr (4) W _ wf BY.out (by omega) hN1 _ (by omega)).mono ?_
            rintro r w' ⟨rfl, hw⟩
            rw [hw]
            clear hw w'
            rw [← Hxf.out]
            go_wp2_with fail
            go_loopw [9, 14] (fun u v wr => ∃ (q d3 : Nat) (A3 : Option Addr), q ≤ C ∧ u = .int .i64 ((i : Int) + (q : Int)) ∧ v = .int .i64 (q : Int) ∧ Blk wr (S + 1) 25 #[.int .i64 (e : Int), .int .i64 (cc : Int), .int .i64 (x0 : Int), .int .i64 (x1 : Int), .int .i64 (x2 : Int), .slice Af n' d, .slice A3 q d3] ∧ wr.ownsRow wf.heap.size 3 1 (.slice A3 q d3) q (intC (pIs q (W.drop i))) ∧ Kp [S + 1] wf wr) (fun _ v _ => C - (intOf v).toNat)
            case atStart => exact ⟨0, 0, none, by omega, by simp, rfl, KP.out, World.ownsRow_nil _ _ _ _, Kp.refl _ _⟩
            case round =>
              have OWF := OW6
              clear KP OW6 BY
              obtain ⟨q, d3, A3, hq, rfl, rfl, hX, ho, hk⟩ := hrel
              have XF := hide hX
              have OW := hide ho
              have KJ := hide hk
              have OW6 := hide (own_kq OWF.out hk (fun g hg => by have h1 := (OWF.out.lt g hg).1; have h2 := L5.out; simp only [List.mem_singleton]; omega))
              have BY := hide (own_byS OW6.out)
              clear hX ho hk
              by_cases hlq : q < C
              · obtain ⟨hqm, hq88⟩ := hC3 q hlq
                have hqs : (q : Int) < (xi : Int) := by omega
                have hqi : (i : Int) + (q : Int) < 88 := by omega
                have hq64 : IntKind.i64.wrap (q : Int) = (q : Int) := by rw [IntKind.wrap_i64]; omega
                have p1 : IntKind.i64.wrap ((i : Int) + (q : Int) + 1) = (i : Int) + (q : Int) + 1 := by rw [IntKind.wrap_i64]; omega
                have bd := (Below.refl wr.heap.size wr).drew
                have X8 := hide (XF.out.below bd)
                have O8 := hide (own_bel OW.out bd)
                have Y8 := hide (Sl.drew BY.out)
                clear bd
                have z6 := XF.out.cell 6
                simp only [List.getElem?_toArray, List.getElem?_cons_succ, List.getElem?_cons_zero] at z6
                obtain ⟨xl, hxl⟩ : ∃ x : Nat, x = nx 1 (W.drop (i + q)) := ⟨_, rfl⟩
                have HXL := hide hxl
                have hx6 : xl < 256 := by rw [hxl]; exact nx1_lt _
                clear hxl
                go_wp2_with fail
                refine (at_anyZ Ar N kr (5) W _ wr BY.out (by omega) hN1 _ (by omega)).mono ?_
                rintro r w' ⟨rfl, hw⟩
                rw [hw]
                clear hw w'
                rw [← Hxi.out]
                go_wp2_with fail
                refine wp_region_noPanic ?_
                refine wp_region_last (n := 8) (S := (fun w' => w'.cell? ⟨S + 1, 6, none⟩ = some (.slice A3 q d3))) (by kernel_rfl) (by rfl) (by kernel_rfl) ?_ (fun hHeld => ?_)
                · ((try dsimp only) <;> (first | trivial | assumption | go_keep))
                clear z6
                refine wpAnyH_take (i := 0) (v := ?_) (by simp only [List.getElem?_toArray, List.getElem?_cons_zero]; rfl) (by kernel_rfl) (by kernel_rfl) (by kernel_rfl) (fun _ _ _ h => h) (Or.inl ⟨by rfl, ?_⟩) (by assumption) ?_
                rotate_left 1
                · (intro w hSw; (try dsimp only at hSw); go_simp; try with_reducible rfl)
                try simp only [Act.put, List.setIfInBounds_toArray, List.set_cons_zero, List.set_cons_succ]
                refine wpAnyH_take (i := 1) (v := ?_) (by simp only [List.getElem?_toArray, List.getElem?_cons_succ, List.getElem?_cons_zero]; rfl) (by kernel_rfl) (by kernel_rfl) (by kernel_rfl) (fun _ _ _ h => h) (Or.inl ⟨by rfl, ?_⟩) (by assumption) ?_
                rotate_left 1
                · (intro w hSw; (try dsimp only at hSw); go_simp; try with_reducible rfl)
                try simp only [Act.put, List.setIfInBounds_toArray, List.set_cons_zero, List.set_cons_succ]
                refine wpAnyH_take (i := 2) (v := ?_) (by simp only [List.getElem?_toArray, List.getElem?_cons_succ, List.getElem?_cons_zero]; rfl) (by kernel_rfl) (by kernel_rfl) (by kernel_rfl) (fun _ _ _ h => h) (Or.inl ⟨by rfl, ?_⟩) (by assumption) ?_
                rotate_left 1
                · (intro w hSw; (try dsimp only at hSw); go_simp; try with_reducible rfl)
                try simp only [Act.put, List.setIfInBounds_toArray, List.set_cons_zero, List.set_cons_succ]
                refine wpAnyH_take (i := 3) (v := ?_) (by simp only [List.getElem?_toArray, List.getElem?_cons_succ, List.getElem?_cons_zero]; rfl) (by kernel_rfl) (by kernel_rfl) (by kernel_rfl) (fun _ _ _ h => h) (Or.inl ⟨by rfl, ?_⟩) (by assumption) ?_
                rotate_left 1
                · (intro w hSw; (try dsimp only at hSw); go_simp; try with_reducible rfl)
                try simp only [Act.put, List.setIfInBounds_toArray, List.set_cons_zero, List.set_cons_succ]
                refine wpAnyH_ready (rs := [4]) (by kernel_rfl) (by simp) ?_
                refine AllReadyH.cons (by simp only [List.getElem?_toArray, List.getElem?_cons_succ, List.getElem?_cons_zero]; rfl) (fun K hK => ?_) ?_
                rotate_left 1
                · exact AllReadyH.nil
                go_simp
                refine (at_anyZ Ar N kr (i + q) W _ wr.drew Y8.out (by omega) hN1 _ (by omega)).mono ?_; rintro r w' ⟨rfl, hw⟩; rw [hw]; clear hw w'; rw [← HXL.out]
                refine hK.out _ _ ?_ (fun hHeld2 => ?_)
                · ((try dsimp only) <;> (exact X8.out.cell 6))
                clear hHeld
                have hHeld := hHeld2
                clear hHeld2 hK K
                try simp only [Act.put, List.setIfInBounds_toArray, List.set_cons_zero, List.set_cons_succ]
                refine wpAnyH_ready (rs := [5]) (by kernel_rfl) (by simp) ?_
                refine AllReadyH.cons (by simp only [List.getElem?_toArray, List.getElem?_cons_succ, List.getElem?_cons_zero]; rfl) (fun K hK => ?_) ?_
                rotate_left 1
                · exact AllReadyH.nil
                go_simp
                refine hK.out _ _ ?_ (fun hHeld2 => ?_)
                · ((try dsimp only) <;> (exact (X8.out.alloc _).cell 6))
                clear hHeld
                have hHeld := hHeld2
                clear hHeld2 hK K
                try simp only [Act.put, List.setIfInBounds_toArray, List.set_cons_zero, List.set_cons_succ]
                have b19 := hide (((Below.refl wr.heap.size wr).alloc (Nat.le_refl _) (.cells #[.int .i64 (xl : Int)] 3)).drew)
                have X91 := hide (XF.out.below b19.out)
                have O91 := hide (own_bel OW.out b19.out)
                have K91 := hide (KJ.out.trans (Kp.of_below b19.out))
                refine wpAnyH_ready (rs := [6]) (by kernel_rfl) (by simp) ?_
                refine AllReadyH.cons (by simp only [List.getElem?_toArray, List.getElem?_cons_succ, List.getElem?_cons_zero]; rfl) (fun K hK => ?_) ?_
                rotate_left 1
                · exact AllReadyH.nil
                refine step_app rfl (.tmp 158) (.tmp 162) _ (by rfl) etyJ wf.heap.size (.slice A3 q d3) q _ (by rfl) O91.out (wr.heap.size + 1) (some ⟨wr.heap.size, 0, none⟩) 1 1 (intC [(xl : Int)]) (by rfl) (etyJ1 wr _).drew (intC_one _) (by omega) K91.out.size ?_; intro A9 k9 w20 hown hg _; have X10 := hide (blk_grT X91.out O91.out (by decide) hg); have K10 := hide (Kp.gr8 K91.out hg (fun k hk => (O91.out.lt k hk).1)); have O10 := hide hown; clear hown hg
                refine hK.out _ _ ?_ (fun hHeld2 => ?_)
                · ((try dsimp only) <;> (exact X10.out.cell 6))
                clear hHeld
                have hHeld := hHeld2
                clear hHeld2 hK K
                try simp only [Act.put, List.setIfInBounds_toArray, List.set_cons_zero, List.set_cons_succ]
                refine wpAnyH_take (i := 7) (v := ?_) (by simp only [List.getElem?_toArray, List.getElem?_cons_succ, List.getElem?_cons_zero]; rfl) (by kernel_rfl) (by kernel_rfl) (by kernel_rfl) (fun _ _ _ h => h) (Or.inl ⟨by rfl, ?_⟩) (by assumption) ?_
                rotate_left 1
                · (intro w hSw; (try dsimp only at hSw); go_simp; try with_reducible rfl)
                try simp only [Act.put, List.setIfInBounds_toArray, List.set_cons_zero, List.set_cons_succ]
                have z6 := X10.out.cell 6
                have f6 := X10.out.frozen 6
                simp only [List.getElem?_toArray, List.getElem?_cons_succ, List.getElem?_cons_zero] at z6
                refine wpAnyH_done (by kernel_rfl) ?_ _
                refine LastQ.step (by simp only [List.getElem?_toArray, List.getElem?_cons_succ, List.getElem?_cons_zero]; rfl) (by rfl) ?_
                go_simp
                refine NoPanic.normal ?_
                have hkF : Kp [S + 1] w20 (w20.setCell ⟨S + 1, 6, none⟩ (.slice A9 (q + 1) k9)) := (Kp.refl _ w20).set (p := ⟨S + 1, 6, none⟩) (.inl (by simp)) _
                have K11 := hide (K10.out.trans hkF)
                have X11 := hide (X10.out.set 6 (.slice A9 (q + 1) k9))
                have O11 := hide (own_kq O10.out hkF (fun g hg => by have h1 := (O10.out.lt g hg).1; have h2 := SZ2.out; simp only [List.mem_singleton]; omega))
                clear hHeld z6 f6 X10 O10 K10 X91 O91 K91 b19 X8 O8 Y8 hkF
                go_wp2_with fail
                refine ⟨⟨q + 1, k9, A9, by omega, by simp; omega, rfl, by simpa [List.setIfInBounds_toArray] using X11.out, ?_, K11.out⟩, by simp [intOf]; omega⟩
                have h1 := O11.out
                rw [intC_apps] at h1
                rw [pIs_succ, List.drop_drop, ← HXL.out]
                exact h1
              · have hqC : q = C := by omega
                have hend := hC4 q hq hlq
                clear hC3 hC4
                obtain ⟨is, his⟩ : ∃ x, x = pIs q (W.drop i) := ⟨_, rfl⟩
                have HIS := hide (show is.length = q ∧ fsj.length = n' from ⟨by rw [his, pIs_len], OR.out.l1⟩)
                have HV : Hid (parseR l = (⟨e, cc, x0, x1, x2, fsj, is⟩, xs)) := hide (by
                  unfold parseR parseRW
                  dsimp only
                  rw [← HW.out, ← Hxf.out, ← Hxi.out, HFS.out]
                  dsimp only
                  have h00 := Hx0.out
                  rw [List.drop_zero] at h00
                  rw [← HEC.out.1, ← HEC.out.2, ← h00, ← Hx1.out, ← Hx2.out, ← Hxs.out, his, hqC, HC2.out])
                have OW2 := hide (show wr.ownsRow wf.heap.size 3 1 (.slice A3 q d3) q (intC is) by rw [his]; exact OW.out)
                have ORW := hide (OR.out.kp KJ.out (by intro g hg; have := SZ.out; simp only [List.mem_singleton] at hg; omega))
                have KZW := hide (KZ2.out.kp KJ.out (by simp))
                have hSw : S ≤ wr.heap.size := by have := SZ2.out; have := KJ.out.size; omega
                have BW := hide (BN.out.trans (KJ.out.below (by have := SZ2.out; omega) (by simp)))
                have BYL := hide (show By wr wr.heap.size (some ⟨b0, off0, none⟩) 128 l from RwAt.sl (HBy.out wr BW.out))
                have HSS := hide (show w.heap.size ≤ wf.heap.size ∧ w.heap.size ≤ w9.heap.size from ⟨by rw [← HS.out]; have := SZ2.out; omega, by rw [← HS.out]; have := SZ.out; omega⟩)
                clear his hqC OW
                by_cases hqm : q < xi
                · have hqs : (q : Int) < (xi : Int) := by omega
                  have hqi : ¬ (i : Int) + (q : Int) < 88 := by omega
                  clear hend
                  go_wp2_with fail
                  refine (at_anyZ Ar N kr (5) W _ wr BY.out (by omega) hN1 _ (by omega)).mono ?_
                  rintro r w' ⟨rfl, hw⟩
                  rw [hw]
                  clear hw w'
                  rw [← Hxi.out]
                  have hcls : n' ≤ 100000 ∧ q ≤ 100000 ∧ lsN fsj ≤ 100000 := by omega
                  have CK := hide (rcheck_any e cc x0 x1 x2 Af A3 n' d q d3 w9.heap.size w9.heap.size wf.heap.size wf.heap.size fsj is wr.drew (ORW.out.kp (Kp.of_below (gs := []) (Below.refl _ _).drew) (by simp)).fis (RwAt.of_own (own_bel OW2.out (Below.refl _ _).drew)) hcls.1 hcls.2.1 hcls.2.2 HBD.out)
                  have CP := hide (fun (w' : World) (hb : Below wr.heap.size wr w') => show w'.cell? ⟨S + 1, 0, none⟩ = some (.int .i64 (e : Int)) ∧ w'.cell? ⟨S + 1, 1, none⟩ = some (.int .i64 (cc : Int)) ∧ w'.cell? ⟨S + 1, 2, none⟩ = some (.int .i64 (x0 : Int)) ∧ w'.cell? ⟨S + 1, 3, none⟩ = some (.int .i64 (x1 : Int)) ∧ w'.cell? ⟨S + 1, 4, none⟩ = some (.int .i64 (x2 : Int)) ∧ w'.cell? ⟨S + 1, 5, none⟩ = some (.slice Af n' d) ∧ w'.cell? ⟨S + 1, 6, none⟩ = some (.slice A3 q d3) ∧ By w' wr.heap.size (some ⟨b0, off0, none⟩) 128 l from ⟨(XF.out.below hb).cell 0, (XF.out.below hb).cell 1, (XF.out.below hb).cell 2, (XF.out.below hb).cell 3, (XF.out.below hb).cell 4, (XF.out.below hb).cell 5, (XF.out.below hb).cell 6, Sl.below BYL.out hb⟩)
                  clear hcls
                  go_wp2_with fail
                  by_cases hck : checkP e cc x0 x1 x2 fsj is = 0
                  rotate_left
                  · have HN := hide (show ∀ v s, ¬ IsEnc l v s from fun v s hv => hck (by
                      have h1 := (parse_okR l).2 ⟨v, s, hv⟩
                      rw [HV.out] at h1
                      exact h1.1))
                    have hckn := hide (show (checkP e cc x0 x1 x2 fsj is != 0) = true from bne_iff_ne.2 hck)
                    generalize checkP (e : Int) cc x0 x1 x2 fsj is = ck at *
                    have s0 := CP.out _ (Below.refl _ _).drew
                    refine wp_region_noPanic ?_
                    refine wp_region_held_drew (S := (fun w' => w'.cell? ⟨S + 1, 0, none⟩ = some (.int .i64 (e : Int)) ∧ w'.cell? ⟨S + 1, 1, none⟩ = some (.int .i64 (cc : Int)) ∧ w'.cell? ⟨S + 1, 2, none⟩ = some (.int .i64 (x0 : Int)) ∧ w'.cell? ⟨S + 1, 3, none⟩ = some (.int .i64 (x1 : Int)) ∧ w'.cell? ⟨S + 1, 4, none⟩ = some (.int .i64 (x2 : Int)) ∧ w'.cell? ⟨S + 1, 5, none⟩ = some (.slice Af n' d) ∧ w'.cell? ⟨S + 1, 6, none⟩ = some (.slice A3 q d3) ∧ By w' wr.heap.size (some ⟨b0, off0, none⟩) 128 l)) (by kernel_rfl) ?_ (fun hHeld => ?_)
                    · ((try dsimp only) <;> (first | trivial | assumption | go_keep))
                    clear s0
                    have bd := (Below.refl wr.heap.size wr).drew
                    refine wpAnyH_take (i := 0) (v := ?_) (by simp only [List.getElem?_toArray, List.getElem?_cons_zero]; rfl) (by kernel_rfl) (by kernel_rfl) (by kernel_rfl) (fun _ _ _ h => h) (Or.inl ⟨by rfl, ?_⟩) (by assumption) ?_
                    rotate_left 1
                    · (intro w hSw; (try dsimp only at hSw); go_simp; try with_reducible rfl)
                    try simp only [Act.put, List.setIfInBounds_toArray, List.set_cons_zero, List.set_cons_succ]
                    refine wpAnyH_ready (rs := [1]) (by kernel_rfl) (by simp) ?_
                    refine AllReadyH.cons (by simp only [List.getElem?_toArray, List.getElem?_cons_succ, List.getElem?_cons_zero]; rfl) (fun K hK => ?_) ?_
                    rotate_left 1
                    · exact AllReadyH.nil
                    go_simp
                    refine CK.out.mono ?_; rintro r w30 ⟨rfl, hb⟩; have B29 := hide (bd.trans (hb.mono bd.size)); clear hb
                    refine hK.out _ _ ?_ (fun hHeld2 => ?_)
                    · ((try dsimp only) <;> (exact CP.out _ B29.out))
                    clear hHeld
                    have hHeld := hHeld2
                    clear hHeld2 hK K
                    try simp only [Act.put, List.setIfInBounds_toArray, List.set_cons_zero, List.set_cons_succ]
                    refine wpAnyH_take (i := 2) (v := ?_) (by simp only [List.getElem?_toArray, List.getElem?_cons_succ, List.getElem?_cons_zero]; rfl) (by kernel_rfl) (by kernel_rfl) (by kernel_rfl) (fun _ _ _ h => h) (Or.inl ⟨by rfl, ?_⟩) (by assumption) ?_
                    rotate_left 1
                    · (intro w hSw; (try dsimp only at hSw); go_simp; try with_reducible rfl)
                    try simp only [Act.put, List.setIfInBounds_toArray, List.set_cons_zero, List.set_cons_succ]
                    try simp only [hckn.out]
                    refine wpAnyH_take (i := 3) (v := ?_) (by simp only [List.getElem?_toArray, List.getElem?_cons_succ, List.getElem?_cons_zero]; rfl) (by kernel_rfl) (by kernel_rfl) (by kernel_rfl) (fun _ _ _ h => h) (Or.inl ⟨by rfl, ?_⟩) (by assumption) ?_
                    rotate_left 1
                    · (intro w hSw; (try dsimp only at hSw); go_simp; try with_reducible rfl)
                    try simp only [Act.put, List.setIfInBounds_toArray, List.set_cons_zero, List.set_cons_succ]
                    refine wpAnyH_take (i := 4) (v := undef) (by simp only [List.getElem?_toArray, List.getElem?_cons_succ, List.getElem?_cons_zero]; rfl) (by kernel_rfl) (by kernel_rfl) (by kernel_rfl) (fun _ _ _ h => h) (Or.inr ⟨by rfl, rfl⟩) (by assumption) ?_
                    try simp only [Act.put, List.setIfInBounds_toArray, List.set_cons_zero, List.set_cons_succ]
                    refine wpAnyH_take (i := 5) (v := undef) (by simp only [List.getElem?_toArray, List.getElem?_cons_succ, List.getElem?_cons_zero]; rfl) (by kernel_rfl) (by kernel_rfl) (by kernel_rfl) (fun _ _ _ h => h) (Or.inr ⟨by rfl, rfl⟩) (by assumption) ?_
                    try simp only [Act.put, List.setIfInBounds_toArray, List.set_cons_zero, List.set_cons_succ]
                    refine wpAnyH_take (i := 6) (v := undef) (by simp only [List.getElem?_toArray, List.getElem?_cons_succ, List.getElem?_cons_zero]; rfl) (by kernel_rfl) (by kernel_rfl) (by kernel_rfl) (fun _ _ _ h => h) (Or.inr ⟨by rfl, rfl⟩) (by assumption) ?_
                    try simp only [Act.put, List.setIfInBounds_toArray, List.set_cons_zero, List.set_cons_succ]
                    refine wpAnyH_take (i := 7) (v := undef) (by simp only [List.getElem?_toArray, List.getElem?_cons_succ, List.getElem?_cons_zero]; rfl) (by kernel_rfl) (by kernel_rfl) (by kernel_rfl) (fun _ _ _ h => h) (Or.inr ⟨by rfl, rfl⟩) (by assumption) ?_
                    try simp only [Act.put, List.setIfInBounds_toArray, List.set_cons_zero, List.set_cons_succ]
                    refine wpAnyH_take (i := 8) (v := undef) (by simp only [List.getElem?_toArray, List.getElem?_cons_succ, List.getElem?_cons_zero]; rfl) (by kernel_rfl) (by kernel_rfl) (by kernel_rfl) (fun _ _ _ h => h) (Or.inr ⟨by rfl, rfl⟩) (by assumption) ?_
                    try simp only [Act.put, List.setIfInBounds_toArray, List.set_cons_zero, List.set_cons_succ]
                    refine wpAnyH_take (i := 9) (v := undef) (by simp only [List.getElem?_toArray, List.getElem?_cons_succ, List.getElem?_cons_zero]; rfl) (by kernel_rfl) (by kernel_rfl) (by kernel_rfl) (fun _ _ _ h => h) (Or.inr ⟨by rfl, rfl⟩) (by assumption) ?_
                    try simp only [Act.put, List.setIfInBounds_toArray, List.set_cons_zero, List.set_cons_succ]
                    refine wpAnyH_take (i := 10) (v := undef) (by simp only [List.getElem?_toArray, List.getElem?_cons_succ, List.getElem?_cons_zero]; rfl) (by kernel_rfl) (by kernel_rfl) (by kernel_rfl) (fun _ _ _ h => h) (Or.inr ⟨by rfl, rfl⟩) (by assumption) ?_
                    try simp only [Act.put, List.setIfInBounds_toArray, List.set_cons_zero, List.set_cons_succ]
                    refine wpAnyH_take (i := 11) (v := ?_) (by simp only [List.getElem?_toArray, List.getElem?_cons_succ, List.getElem?_cons_zero]; rfl) (by kernel_rfl) (by kernel_rfl) (by kernel_rfl) (fun _ _ _ h => h) (Or.inl ⟨by rfl, ?_⟩) (by assumption) ?_
                    rotate_left 1
                    · (intro w hSw; (try dsimp only at hSw); go_simp; try with_reducible rfl)
                    try simp only [Act.put, List.setIfInBounds_toArray, List.set_cons_zero, List.set_cons_succ]
                    refine wpAnyH_done (by kernel_rfl) ?_ _
                    refine NoPanic.normal ?_
                    clear hHeld
                    have KZ3 := hide (KZW.out.below B29.out)
                    have B30 := hide (BW.out.trans (B29.out.mono hSw))
                    have z0 := KZ3.out.cell 0
                    have z1 := KZ3.out.cell 1
                    have z2 := KZ3.out.cell 2
                    have z3 := KZ3.out.cell 3
                    have z4 := KZ3.out.cell 4
                    have z5 := KZ3.out.cell 5
                    have z6 := KZ3.out.cell 6
                    simp only [List.getElem?_toArray, List.getElem?_cons_succ, List.getElem?_cons_zero] at z0 z1 z2 z3 z4 z5 z6
                    have f0 := KZ3.out.frozen 0
                    have f1 := KZ3.out.frozen 1
                    have f2 := KZ3.out.frozen 2
                    have f3 := KZ3.out.frozen 3
                    have f4 := KZ3.out.frozen 4
                    have f5 := KZ3.out.frozen 5
                    have f6 := KZ3.out.frozen 6

                    go_wp2_with fail

                    have PS := part_set7 KZ3.out (.int .i64 0) (.int .i64 0) (.int .i64 0) (.int .i64 0) (.int .i64 0) (.slice none 0 0) (.slice none 0 0)
                    refine ret_decR rfl rfl rfl PS.1 rfl ⟨.inr ⟨HN.out, rfl⟩, ?_⟩
                    rw [← HS.out]
                    exact B30.out.trans (PS.2.below (by have := B30.out.size; have := HS.out; omega) (by simp))
                  obtain ⟨cv, hcv⟩ := cv_ex Tryd.prog 30 9
                  have hcb : ∀ w' : World, By w' wr.heap.size (some ⟨b0, off0, none⟩) 128 l → cv (.slice (some ⟨b0, off0, none⟩) 128 c) w' = .ok (.string (txt l)) w' := fun w' h => cv_txt hcv Tryd.underlying30 Tryd.underlying5 Tryd.underlying9 c h
                  have hckn := hide (show (checkP e cc x0 x1 x2 fsj is != 0) = false by rw [hck]; rfl)
                  by_cases henc : encB e cc (wordsB x0 x1 x2 fsj is xs) = l
                  · obtain ⟨EL, hEL⟩ : ∃ x, x = encB e cc (wordsB x0 x1 x2 fsj is xs) := ⟨_, rfl⟩
                    have heq : ((txt EL).toList == (txt l).toList) = true := by rw [hEL]; rw [henc]; exact txt_eq l
                    have HEL := hide hEL
                    clear hEL
                    have s0 := CP.out _ (Below.refl _ _).drew
                    refine wp_region_noPanic ?_
                    refine wp_region_held_drew (S := (fun w' => w'.cell? ⟨S + 1, 0, none⟩ = some (.int .i64 (e : Int)) ∧ w'.cell? ⟨S + 1, 1, none⟩ = some (.int .i64 (cc : Int)) ∧ w'.cell? ⟨S + 1, 2, none⟩ = some (.int .i64 (x0 : Int)) ∧ w'.cell? ⟨S + 1, 3, none⟩ = some (.int .i64 (x1 : Int)) ∧ w'.cell? ⟨S + 1, 4, none⟩ = some (.int .i64 (x2 : Int)) ∧ w'.cell? ⟨S + 1, 5, none⟩ = some (.slice Af n' d) ∧ w'.cell? ⟨S + 1, 6, none⟩ = some (.slice A3 q d3) ∧ By w' wr.heap.size (some ⟨b0, off0, none⟩) 128 l)) (by kernel_rfl) ?_ (fun hHeld => ?_)
                    · ((try dsimp only) <;> (first | trivial | assumption | go_keep))
                    clear s0
                    have bd := (Below.refl wr.heap.size wr).drew
                    refine wpAnyH_take (i := 0) (v := ?_) (by simp only [List.getElem?_toArray, List.getElem?_cons_zero]; rfl) (by kernel_rfl) (by kernel_rfl) (by kernel_rfl) (fun _ _ _ h => h) (Or.inl ⟨by rfl, ?_⟩) (by assumption) ?_
                    rotate_left 1
                    · (intro w hSw; (try dsimp only at hSw); go_simp; try with_reducible rfl)
                    try simp only [Act.put, List.setIfInBounds_toArray, List.set_cons_zero, List.set_cons_succ]
                    refine wpAnyH_ready (rs := [1]) (by kernel_rfl) (by simp) ?_
                    refine AllReadyH.cons (by simp only [List.getElem?_toArray, List.getElem?_cons_succ, List.getElem?_cons_zero]; rfl) (fun K hK => ?_) ?_
                    rotate_left 1
                    · exact AllReadyH.nil
                    go_simp
                    refine CK.out.mono ?_; rintro r w30 ⟨rfl, hb⟩; have B29 := hide (bd.trans (hb.mono bd.size)); clear hb
                    refine hK.out _ _ ?_ (fun hHeld2 => ?_)
                    · ((try dsimp only) <;> (exact CP.out _ B29.out))
                    clear hHeld
                    have hHeld := hHeld2
                    clear hHeld2 hK K
                    try simp only [Act.put, List.setIfInBounds_toArray, List.set_cons_zero, List.set_cons_succ]
                    refine wpAnyH_take (i := 2) (v := ?_) (by simp only [List.getElem?_toArray, List.getElem?_cons_succ, List.getElem?_cons_zero]; rfl) (by kernel_rfl) (by kernel_rfl) (by kernel_rfl) (fun _ _ _ h => h) (Or.inl ⟨by rfl, ?_⟩) (by assumption) ?_
                    rotate_left 1
                    · (intro w hSw; (try dsimp only at hSw); go_simp; try with_reducible rfl)
                    try simp only [Act.put, List.setIfInBounds_toArray, List.set_cons_zero, List.set_cons_succ]
                    try simp only [hckn.out]
                    refine wpAnyH_take (i := 3) (v := ?_) (by simp only [List.getElem?_toArray, List.getElem?_cons_succ, List.getElem?_cons_zero]; rfl) (by kernel_rfl) (by kernel_rfl) (by kernel_rfl) (fun _ _ _ h => h) (Or.inl ⟨by rfl, ?_⟩) (by assumption) ?_
                    rotate_left 1
                    · (intro w hSw; (try dsimp only at hSw); go_simp; try with_reducible rfl)
                    try simp only [Act.put, List.setIfInBounds_toArray, List.set_cons_zero, List.set_cons_succ]
                    refine wpAnyH_take (i := 4) (v := ?_) (by simp only [List.getElem?_toArray, List.getElem?_cons_succ, List.getElem?_cons_zero]; rfl) (by kernel_rfl) (by kernel_rfl) (by kernel_rfl) (fun _ _ _ h => h) (Or.inl ⟨by rfl, ?_⟩) (by assumption) ?_
                    rotate_left 1
                    · (intro w hSw; (try dsimp only at hSw); go_simp; try with_reducible rfl)
                    try simp only [Act.put, List.setIfInBounds_toArray, List.set_cons_zero, List.set_cons_succ]
                    refine wpAnyH_take (i := 5) (v := ?_) (by simp only [List.getElem?_toArray, List.getElem?_cons_succ, List.getElem?_cons_zero]; rfl) (by kernel_rfl) (by kernel_rfl) (by kernel_rfl) (fun _ _ _ h => h) (Or.inl ⟨by rfl, ?_⟩) (by assumption) ?_
                    rotate_left 1
                    · (intro w hSw; (try dsimp only at hSw); go_simp; try with_reducible rfl)
                    try simp only [Act.put, List.setIfInBounds_toArray, List.set_cons_zero, List.set_cons_succ]
                    refine wpAnyH_take (i := 8) (v := ?_) (by simp only [List.getElem?_toArray, List.getElem?_cons_succ, List.getElem?_cons_zero]; rfl) (by kernel_rfl) (by kernel_rfl) (by kernel_rfl) (fun _ _ _ h => h) (Or.inl ⟨by rfl, ?_⟩) (by assumption) ?_
                    rotate_left 1
                    · (intro w hSw; (try dsimp only at hSw); go_simp; try with_reducible rfl)
                    try simp only [Act.put, List.setIfInBounds_toArray, List.set_cons_zero, List.set_cons_succ]
                    refine wpAnyH_take (i := 9) (v := ?_) (by simp only [List.getElem?_toArray, List.getElem?_cons_succ, List.getElem?_cons_zero]; rfl) (by kernel_rfl) (by kernel_rfl) (by kernel_rfl) (fun _ _ _ h => h) (Or.inl ⟨by rfl, ?_⟩) (by assumption) ?_
                    rotate_left 1
                    · (intro w hSw; (try dsimp only at hSw); go_simp; try with_reducible rfl)
                    try simp only [Act.put, List.setIfInBounds_toArray, List.set_cons_zero, List.set_cons_succ]
                    have EC := hide (renc_any e cc x0 x1 x2 xs hxs32 Af A3 n' d q d3 w9.heap.size w9.heap.size wf.heap.size wf.heap.size fsj is w30 (ORW.out.kp (Kp.of_below (gs := []) B29.out) (by simp)).fis (RwAt.of_own (own_bel OW2.out B29.out)) hck)
                    rw [← HEL.out] at EC
                    refine wpAnyH_ready (rs := [6]) (by kernel_rfl) (by simp) ?_
                    refine AllReadyH.cons (by simp only [List.getElem?_toArray, List.getElem?_cons_succ, List.getElem?_cons_zero]; rfl) (fun K hK => ?_) ?_
                    rotate_left 1
                    · exact AllReadyH.nil
                    go_simp
                    refine EC.out.mono ?_; rintro r w31 ⟨Ae, ke, rfl, ho, hb⟩; have hce := cv_txt hcv Tryd.underlying30 Tryd.underlying5 Tryd.underlying9 ke (own_byS ho); have B31 := hide (B29.out.trans (hb.mono B29.out.size)); clear ho hb
                    refine hK.out _ _ ?_ (fun hHeld2 => ?_)
                    · ((try dsimp only) <;> (exact CP.out _ B31.out))
                    clear hHeld
                    have hHeld := hHeld2
                    clear hHeld2 hK K
                    try simp only [Act.put, List.setIfInBounds_toArray, List.set_cons_zero, List.set_cons_succ]
                    refine wpAnyH_ready (rs := [7]) (by kernel_rfl) (by simp) ?_
                    refine AllReadyH.cons (by simp only [List.getElem?_toArray, List.getElem?_cons_succ, List.getElem?_cons_zero]; rfl) (fun K hK => ?_) ?_
                    rotate_left 1
                    · exact AllReadyH.nil
                    go_simp
                    refine hK.out _ _ ?_ (fun hHeld2 => ?_)
                    · ((try dsimp only) <;> (exact CP.out _ B31.out))
                    clear hHeld
                    have hHeld := hHeld2
                    clear hHeld2 hK K
                    try simp only [Act.put, List.setIfInBounds_toArray, List.set_cons_zero, List.set_cons_succ]
                    refine wpAnyH_take (i := 10) (v := ?_) (by simp only [List.getElem?_toArray, List.getElem?_cons_succ, List.getElem?_cons_zero]; rfl) (by kernel_rfl) (by kernel_rfl) (by kernel_rfl) (fun _ _ _ h => h) (Or.inl ⟨by rfl, ?_⟩) (by assumption) ?_
                    rotate_left 1
                    · (intro w hSw; (try dsimp only at hSw); go_simp; try with_reducible rfl)
                    try simp only [Act.put, List.setIfInBounds_toArray, List.set_cons_zero, List.set_cons_succ]
                    try simp only [heq, Bool.not_true, Bool.not_false]
                    refine wpAnyH_take (i := 11) (v := ?_) (by simp only [List.getElem?_toArray, List.getElem?_cons_succ, List.getElem?_cons_zero]; rfl) (by kernel_rfl) (by kernel_rfl) (by kernel_rfl) (fun _ _ _ h => h) (Or.inl ⟨by rfl, ?_⟩) (by assumption) ?_
                    rotate_left 1
                    · (intro w hSw; (try dsimp only at hSw); go_simp; try with_reducible rfl)
                    try simp only [Act.put, List.setIfInBounds_toArray, List.set_cons_zero, List.set_cons_succ]
                    refine wpAnyH_done (by kernel_rfl) ?_ _
                    refine NoPanic.normal ?_
                    clear hHeld hce heq
                    have KZ3 := hide (KZW.out.below B31.out)
                    have B30 := hide (BW.out.trans (B31.out.mono hSw))
                    have z0 := KZ3.out.cell 0
                    have z1 := KZ3.out.cell 1
                    have z2 := KZ3.out.cell 2
                    have z3 := KZ3.out.cell 3
                    have z4 := KZ3.out.cell 4
                    have z5 := KZ3.out.cell 5
                    have z6 := KZ3.out.cell 6
                    simp only [List.getElem?_toArray, List.getElem?_cons_succ, List.getElem?_cons_zero] at z0 z1 z2 z3 z4 z5 z6
                    have f0 := KZ3.out.frozen 0
                    have f1 := KZ3.out.frozen 1
                    have f2 := KZ3.out.frozen 2
                    have f3 := KZ3.out.frozen 3
                    have f4 := KZ3.out.frozen 4
                    have f5 := KZ3.out.frozen 5
                    have f6 := KZ3.out.frozen 6
                    have X31 := hide (XF.out.below B31.out)
                    have y0 := X31.out.cell 0
                    have y1 := X31.out.cell 1
                    have y2 := X31.out.cell 2
                    have y3 := X31.out.cell 3
                    have y4 := X31.out.cell 4
                    have y5 := X31.out.cell 5
                    have y6 := X31.out.cell 6
                    simp only [List.getElem?_toArray, List.getElem?_cons_succ, List.getElem?_cons_zero] at y0 y1 y2 y3 y4 y5 y6
                    have OR31 := hide (ORW.out.kp (Kp.of_below (gs := []) B31.out) (by simp))
                    have OW31 := hide (own_bel OW2.out B31.out)
                    go_wp2_with fail
                    have PS := part_set7 KZ3.out (.int .i64 (e : Int)) (.int .i64 (cc : Int)) (.int .i64 (x0 : Int)) (.int .i64 (x1 : Int)) (.int .i64 (x2 : Int)) (.slice Af n' d) (.slice A3 q d3)
                    refine ret_decR rfl rfl rfl PS.1 rfl ⟨.inl ⟨⟨e, cc, x0, x1, x2, fsj, is⟩, xs, ⟨hck, hxs32, henc.symm⟩, Af, d, A3, d3, cs, ?_, ?_, ?_⟩, ?_⟩
                    · dsimp only
                      rw [HIS.out.1, HIS.out.2]
                      rfl
                    · dsimp only
                      rw [HIS.out.2]
                      exact (OR31.out.kp PS.2 (by intro g hg; have := SZ.out; simp only [List.mem_singleton] at hg; omega)).bq HSS.out.2
                    · dsimp only
                      rw [HIS.out.1]
                      exact own_bq (own_kq OW31.out PS.2 (fun g hg => by have h1 := (OW31.out.lt g hg).1; have h2 := SZ2.out; simp only [List.mem_singleton]; omega)) HSS.out.1
                    · rw [← HS.out]
                      exact B30.out.trans (PS.2.below (by have := B30.out.size; have := HS.out; omega) (by simp))
                  · obtain ⟨EL, hEL⟩ : ∃ x, x = encB e cc (wordsB x0 x1 x2 fsj is xs) := ⟨_, rfl⟩
                    have heq : ((txt EL).toList == (txt l).toList) = false := by rw [hEL]; exact txt_ne henc
                    have HEL := hide hEL
                    clear hEL
                    have s0 := CP.out _ (Below.refl _ _).drew
                    refine wp_region_noPanic ?_
                    refine wp_region_held_drew (S := (fun w' => w'.cell? ⟨S + 1, 0, none⟩ = some (.int .i64 (e : Int)) ∧ w'.cell? ⟨S + 1, 1, none⟩ = some (.int .i64 (cc : Int)) ∧ w'.cell? ⟨S + 1, 2, none⟩ = some (.int .i64 (x0 : Int)) ∧ w'.cell? ⟨S + 1, 3, none⟩ = some (.int .i64 (x1 : Int)) ∧ w'.cell? ⟨S + 1, 4, none⟩ = some (.int .i64 (x2 : Int)) ∧ w'.cell? ⟨S + 1, 5, none⟩ = some (.slice Af n' d) ∧ w'.cell? ⟨S + 1, 6, none⟩ = some (.slice A3 q d3) ∧ By w' wr.heap.size (some ⟨b0, off0, none⟩) 128 l)) (by kernel_rfl) ?_ (fun hHeld => ?_)
                    · ((try dsimp only) <;> (first | trivial | assumption | go_keep))
                    clear s0
                    have bd := (Below.refl wr.heap.size wr).drew
                    refine wpAnyH_take (i := 0) (v := ?_) (by simp only [List.getElem?_toArray, List.getElem?_cons_zero]; rfl) (by kernel_rfl) (by kernel_rfl) (by kernel_rfl) (fun _ _ _ h => h) (Or.inl ⟨by rfl, ?_⟩) (by assumption) ?_
                    rotate_left 1
                    · (intro w hSw; (try dsimp only at hSw); go_simp; try with_reducible rfl)
                    try simp only [Act.put, List.setIfInBounds_toArray, List.set_cons_zero, List.set_cons_succ]
                    refine wpAnyH_ready (rs := [1]) (by kernel_rfl) (by simp) ?_
                    refine AllReadyH.cons (by simp only [List.getElem?_toArray, List.getElem?_cons_succ, List.getElem?_cons_zero]; rfl) (fun K hK => ?_) ?_
                    rotate_left 1
                    · exact AllReadyH.nil
                    go_simp
                    refine CK.out.mono ?_; rintro r w30 ⟨rfl, hb⟩; have B29 := hide (bd.trans (hb.mono bd.size)); clear hb
                    refine hK.out _ _ ?_ (fun hHeld2 => ?_)
                    · ((try dsimp only) <;> (exact CP.out _ B29.out))
                    clear hHeld
                    have hHeld := hHeld2
                    clear hHeld2 hK K
                    try simp only [Act.put, List.setIfInBounds_toArray, List.set_cons_zero, List.set_cons_succ]
                    refine wpAnyH_take (i := 2) (v := ?_) (by simp only [List.getElem?_toArray, List.getElem?_cons_succ, List.getElem?_cons_zero]; rfl) (by kernel_rfl) (by kernel_rfl) (by kernel_rfl) (fun _ _ _ h => h) (Or.inl ⟨by rfl, ?_⟩) (by assumption) ?_
                    rotate_left 1
                    · (intro w hSw; (try dsimp only at hSw); go_simp; try with_reducible rfl)
                    try simp only [Act.put, List.setIfInBounds_toArray, List.set_cons_zero, List.set_cons_succ]
                    try simp only [hckn.out]
                    refine wpAnyH_take (i := 3) (v := ?_) (by simp only [List.getElem?_toArray, List.getElem?_cons_succ, List.getElem?_cons_zero]; rfl) (by kernel_rfl) (by kernel_rfl) (by kernel_rfl) (fun _ _ _ h => h) (Or.inl ⟨by rfl, ?_⟩) (by assumption) ?_
                    rotate_left 1
                    · (intro w hSw; (try dsimp only at hSw); go_simp; try with_reducible rfl)
                    try simp only [Act.put, List.setIfInBounds_toArray, List.set_cons_zero, List.set_cons_succ]
                    refine wpAnyH_take (i := 4) (v := ?_) (by simp only [List.getElem?_toArray, List.getElem?_cons_succ, List.getElem?_cons_zero]; rfl) (by kernel_rfl) (by kernel_rfl) (by kernel_rfl) (fun _ _ _ h => h) (Or.inl ⟨by rfl, ?_⟩) (by assumption) ?_
                    rotate_left 1
                    · (intro w hSw; (try dsimp only at hSw); go_simp; try with_reducible rfl)
                    try simp only [Act.put, List.setIfInBounds_toArray, List.set_cons_zero, List.set_cons_succ]
                    refine wpAnyH_take (i := 5) (v := ?_) (by simp only [List.getElem?_toArray, List.getElem?_cons_succ, List.getElem?_cons_zero]; rfl) (by kernel_rfl) (by kernel_rfl) (by kernel_rfl) (fun _ _ _ h => h) (Or.inl ⟨by rfl, ?_⟩) (by assumption) ?_
                    rotate_left 1
                    · (intro w hSw; (try dsimp only at hSw); go_simp; try with_reducible rfl)
                    try simp only [Act.put, List.setIfInBounds_toArray, List.set_cons_zero, List.set_cons_succ]
                    refine wpAnyH_take (i := 8) (v := ?_) (by simp only [List.getElem?_toArray, List.getElem?_cons_succ, List.getElem?_cons_zero]; rfl) (by kernel_rfl) (by kernel_rfl) (by kernel_rfl) (fun _ _ _ h => h) (Or.inl ⟨by rfl, ?_⟩) (by assumption) ?_
                    rotate_left 1
                    · (intro w hSw; (try dsimp only at hSw); go_simp; try with_reducible rfl)
                    try simp only [Act.put, List.setIfInBounds_toArray, List.set_cons_zero, List.set_cons_succ]
                    refine wpAnyH_take (i := 9) (v := ?_) (by simp only [List.getElem?_toArray, List.getElem?_cons_succ, List.getElem?_cons_zero]; rfl) (by kernel_rfl) (by kernel_rfl) (by kernel_rfl) (fun _ _ _ h => h) (Or.inl ⟨by rfl, ?_⟩) (by assumption) ?_
                    rotate_left 1
                    · (intro w hSw; (try dsimp only at hSw); go_simp; try with_reducible rfl)
                    try simp only [Act.put, List.setIfInBounds_toArray, List.set_cons_zero, List.set_cons_succ]
                    have EC := hide (renc_any e cc x0 x1 x2 xs hxs32 Af A3 n' d q d3 w9.heap.size w9.heap.size wf.heap.size wf.heap.size fsj is w30 (ORW.out.kp (Kp.of_below (gs := []) B29.out) (by simp)).fis (RwAt.of_own (own_bel OW2.out B29.out)) hck)
                    rw [← HEL.out] at EC
                    refine wpAnyH_ready (rs := [6]) (by kernel_rfl) (by simp) ?_
                    refine AllReadyH.cons (by simp only [List.getElem?_toArray, List.getElem?_cons_succ, List.getElem?_cons_zero]; rfl) (fun K hK => ?_) ?_
                    rotate_left 1
                    · exact AllReadyH.nil
                    go_simp
                    refine EC.out.mono ?_; rintro r w31 ⟨Ae, ke, rfl, ho, hb⟩; have hce := cv_txt hcv Tryd.underlying30 Tryd.underlying5 Tryd.underlying9 ke (own_byS ho); have B31 := hide (B29.out.trans (hb.mono B29.out.size)); clear ho hb
                    refine hK.out _ _ ?_ (fun hHeld2 => ?_)
                    · ((try dsimp only) <;> (exact CP.out _ B31.out))
                    clear hHeld
                    have hHeld := hHeld2
                    clear hHeld2 hK K
                    try simp only [Act.put, List.setIfInBounds_toArray, List.set_cons_zero, List.set_cons_succ]
                    refine wpAnyH_ready (rs := [7]) (by kernel_rfl) (by simp) ?_
                    refine AllReadyH.cons (by simp only [List.getElem?_toArray, List.getElem?_cons_succ, List.getElem?_cons_zero]; rfl) (fun K hK => ?_) ?_
                    rotate_left 1
                    · exact AllReadyH.nil
                    go_simp
                    refine hK.out _ _ ?_ (fun hHeld2 => ?_)
                    · ((try dsimp only) <;> (exact CP.out _ B31.out))
                    clear hHeld
                    have hHeld := hHeld2
                    clear hHeld2 hK K
                    try simp only [Act.put, List.setIfInBounds_toArray, List.set_cons_zero, List.set_cons_succ]
                    refine wpAnyH_take (i := 10) (v := ?_) (by simp only [List.getElem?_toArray, List.getElem?_cons_succ, List.getElem?_cons_zero]; rfl) (by kernel_rfl) (by kernel_rfl) (by kernel_rfl) (fun _ _ _ h => h) (Or.inl ⟨by rfl, ?_⟩) (by assumption) ?_
                    rotate_left 1
                    · (intro w hSw; (try dsimp only at hSw); go_simp; try with_reducible rfl)
                    try simp only [Act.put, List.setIfInBounds_toArray, List.set_cons_zero, List.set_cons_succ]
                    try simp only [heq, Bool.not_true, Bool.not_false]
                    refine wpAnyH_take (i := 11) (v := ?_) (by simp only [List.getElem?_toArray, List.getElem?_cons_succ, List.getElem?_cons_zero]; rfl) (by kernel_rfl) (by kernel_rfl) (by kernel_rfl) (fun _ _ _ h => h) (Or.inl ⟨by rfl, ?_⟩) (by assumption) ?_
                    rotate_left 1
                    · (intro w hSw; (try dsimp only at hSw); go_simp; try with_reducible rfl)
                    try simp only [Act.put, List.setIfInBounds_toArray, List.set_cons_zero, List.set_cons_succ]
                    refine wpAnyH_done (by kernel_rfl) ?_ _
                    refine NoPanic.normal ?_
                    clear hHeld hce heq
                    have KZ3 := hide (KZW.out.below B31.out)
                    have B30 := hide (BW.out.trans (B31.out.mono hSw))
                    have z0 := KZ3.out.cell 0
                    have z1 := KZ3.out.cell 1
                    have z2 := KZ3.out.cell 2
                    have z3 := KZ3.out.cell 3
                    have z4 := KZ3.out.cell 4
                    have z5 := KZ3.out.cell 5
                    have z6 := KZ3.out.cell 6
                    simp only [List.getElem?_toArray, List.getElem?_cons_succ, List.getElem?_cons_zero] at z0 z1 z2 z3 z4 z5 z6
                    have f0 := KZ3.out.frozen 0
                    have f1 := KZ3.out.frozen 1
                    have f2 := KZ3.out.frozen 2
                    have f3 := KZ3.out.frozen 3
                    have f4 := KZ3.out.frozen 4
                    have f5 := KZ3.out.frozen 5
                    have f6 := KZ3.out.frozen 6
                    have HN := hide (show ∀ v s, ¬ IsEnc l v s from fun v s hv => henc (by
                      have h1 := (parse_okR l).2 ⟨v, s, hv⟩
                      rw [HV.out] at h1
                      exact h1.2))
                    go_wp2_with fail

                    have PS := part_set7 KZ3.out (.int .i64 0) (.int .i64 0) (.int .i64 0) (.int .i64 0) (.int .i64 0) (.slice none 0 0) (.slice none 0 0)
                    refine ret_decR rfl rfl rfl PS.1 rfl ⟨.inr ⟨HN.out, rfl⟩, ?_⟩
                    rw [← HS.out]
                    exact B30.out.trans (PS.2.below (by have := B30.out.size; have := HS.out; omega) (by simp))
                · have hqs : ¬ (q : Int) < (xi : Int) := by omega
                  clear hend
                  go_wp2_with fail
                  refine (at_anyZ Ar N kr (5) W _ wr BY.out (by omega) hN1 _ (by omega)).mono ?_
                  rintro r w' ⟨rfl, hw⟩
                  rw [hw]
                  clear hw w'
                  rw [← Hxi.out]
                  have hcls : n' ≤ 100000 ∧ q ≤ 100000 ∧ lsN fsj ≤ 100000 := by omega
                  have CK := hide (rcheck_any e cc x0 x1 x2 Af A3 n' d q d3 w9.heap.size w9.heap.size wf.heap.size wf.heap.size fsj is wr.drew (ORW.out.kp (Kp.of_below (gs := []) (Below.refl _ _).drew) (by simp)).fis (RwAt.of_own (own_bel OW2.out (Below.refl _ _).drew)) hcls.1 hcls.2.1 hcls.2.2 HBD.out)
                  have CP := hide (fun (w' : World) (hb : Below wr.heap.size wr w') => show w'.cell? ⟨S + 1, 0, none⟩ = some (.int .i64 (e : Int)) ∧ w'.cell? ⟨S + 1, 1, none⟩ = some (.int .i64 (cc : Int)) ∧ w'.cell? ⟨S + 1, 2, none⟩ = some (.int .i64 (x0 : Int)) ∧ w'.cell? ⟨S + 1, 3, none⟩ = some (.int .i64 (x1 : Int)) ∧ w'.cell? ⟨S + 1, 4, none⟩ = some (.int .i64 (x2 : Int)) ∧ w'.cell? ⟨S + 1, 5, none⟩ = some (.slice Af n' d) ∧ w'.cell? ⟨S + 1, 6, none⟩ = some (.slice A3 q d3) ∧ By w' wr.heap.size (some ⟨b0, off0, none⟩) 128 l from ⟨(XF.out.below hb).cell 0, (XF.out.below hb).cell 1, (XF.out.below hb).cell 2, (XF.out.below hb).cell 3, (XF.out.below hb).cell 4, (XF.out.below hb).cell 5, (XF.out.below hb).cell 6, Sl.below BYL.out hb⟩)
                  clear hcls
                  go_wp2_with fail
                  by_cases hck : checkP e cc x0 x1 x2 fsj is = 0
                  rotate_left
                  · have HN := hide (show ∀ v s, ¬ IsEnc l v s from fun v s hv => hck (by
                      have h1 := (parse_okR l).2 ⟨v, s, hv⟩
                      rw [HV.out] at h1
                      exact h1.1))
                    have hckn := hide (show (checkP e cc x0 x1 x2 fsj is != 0) = true from bne_iff_ne.2 hck)
                    generalize checkP (e : Int) cc x0 x1 x2 fsj is = ck at *
                    have s0 := CP.out _ (Below.refl _ _).drew
                    refine wp_region_noPanic ?_
                    refine wp_region_held_drew (S := (fun w' => w'.cell? ⟨S + 1, 0, none⟩ = some (.int .i64 (e : Int)) ∧ w'.cell? ⟨S + 1, 1, none⟩ = some (.int .i64 (cc : Int)) ∧ w'.cell? ⟨S + 1, 2, none⟩ = some (.int .i64 (x0 : Int)) ∧ w'.cell? ⟨S + 1, 3, none⟩ = some (.int .i64 (x1 : Int)) ∧ w'.cell? ⟨S + 1, 4, none⟩ = some (.int .i64 (x2 : Int)) ∧ w'.cell? ⟨S + 1, 5, none⟩ = some (.slice Af n' d) ∧ w'.cell? ⟨S + 1, 6, none⟩ = some (.slice A3 q d3) ∧ By w' wr.heap.size (some ⟨b0, off0, none⟩) 128 l)) (by kernel_rfl) ?_ (fun hHeld => ?_)
                    · ((try dsimp only) <;> (first | trivial | assumption | go_keep))
                    clear s0
                    have bd := (Below.refl wr.heap.size wr).drew
                    refine wpAnyH_take (i := 0) (v := ?_) (by simp only [List.getElem?_toArray, List.getElem?_cons_zero]; rfl) (by kernel_rfl) (by kernel_rfl) (by kernel_rfl) (fun _ _ _ h => h) (Or.inl ⟨by rfl, ?_⟩) (by assumption) ?_
                    rotate_left 1
                    · (intro w hSw; (try dsimp only at hSw); go_simp; try with_reducible rfl)
                    try simp only [Act.put, List.setIfInBounds_toArray, List.set_cons_zero, List.set_cons_succ]
                    refine wpAnyH_ready (rs := [1]) (by kernel_rfl) (by simp) ?_
                    refine AllReadyH.cons (by simp only [List.getElem?_toArray, List.getElem?_cons_succ, List.getElem?_cons_zero]; rfl) (fun K hK => ?_) ?_
                    rotate_left 1
                    · exact AllReadyH.nil
                    go_simp
                    refine CK.out.mono ?_; rintro r w30 ⟨rfl, hb⟩; have B29 := hide (bd.trans (hb.mono bd.size)); clear hb
                    refine hK.out _ _ ?_ (fun hHeld2 => ?_)
                    · ((try dsimp only) <;> (exact CP.out _ B29.out))
                    clear hHeld
                    have hHeld := hHeld2
                    clear hHeld2 hK K
                    try simp only [Act.put, List.setIfInBounds_toArray, List.set_cons_zero, List.set_cons_succ]
                    refine wpAnyH_take (i := 2) (v := ?_) (by simp only [List.getElem?_toArray, List.getElem?_cons_succ, List.getElem?_cons_zero]; rfl) (by kernel_rfl) (by kernel_rfl) (by kernel_rfl) (fun _ _ _ h => h) (Or.inl ⟨by rfl, ?_⟩) (by assumption) ?_
                    rotate_left 1
                    · (intro w hSw; (try dsimp only at hSw); go_simp; try with_reducible rfl)
                    try simp only [Act.put, List.setIfInBounds_toArray, List.set_cons_zero, List.set_cons_succ]
                    try simp only [hckn.out]
                    refine wpAnyH_take (i := 3) (v := ?_) (by simp only [List.getElem?_toArray, List.getElem?_cons_succ, List.getElem?_cons_zero]; rfl) (by kernel_rfl) (by kernel_rfl) (by kernel_rfl) (fun _ _ _ h => h) (Or.inl ⟨by rfl, ?_⟩) (by assumption) ?_
                    rotate_left 1
                    · (intro w hSw; (try dsimp only at hSw); go_simp; try with_reducible rfl)
                    try simp only [Act.put, List.setIfInBounds_toArray, List.set_cons_zero, List.set_cons_succ]
                    refine wpAnyH_take (i := 4) (v := undef) (by simp only [List.getElem?_toArray, List.getElem?_cons_succ, List.getElem?_cons_zero]; rfl) (by kernel_rfl) (by kernel_rfl) (by kernel_rfl) (fun _ _ _ h => h) (Or.inr ⟨by rfl, rfl⟩) (by assumption) ?_
                    try simp only [Act.put, List.setIfInBounds_toArray, List.set_cons_zero, List.set_cons_succ]
                    refine wpAnyH_take (i := 5) (v := undef) (by simp only [List.getElem?_toArray, List.getElem?_cons_succ, List.getElem?_cons_zero]; rfl) (by kernel_rfl) (by kernel_rfl) (by kernel_rfl) (fun _ _ _ h => h) (Or.inr ⟨by rfl, rfl⟩) (by assumption) ?_
                    try simp only [Act.put, List.setIfInBounds_toArray, List.set_cons_zero, List.set_cons_succ]
                    refine wpAnyH_take (i := 6) (v := undef) (by simp only [List.getElem?_toArray, List.getElem?_cons_succ, List.getElem?_cons_zero]; rfl) (by kernel_rfl) (by kernel_rfl) (by kernel_rfl) (fun _ _ _ h => h) (Or.inr ⟨by rfl, rfl⟩) (by assumption) ?_
                    try simp only [Act.put, List.setIfInBounds_toArray, List.set_cons_zero, List.set_cons_succ]
                    refine wpAnyH_take (i := 7) (v := undef) (by simp only [List.getElem?_toArray, List.getElem?_cons_succ, List.getElem?_cons_zero]; rfl) (by kernel_rfl) (by kernel_rfl) (by kernel_rfl) (fun _ _ _ h => h) (Or.inr ⟨by rfl, rfl⟩) (by assumption) ?_
                    try simp only [Act.put, List.setIfInBounds_toArray, List.set_cons_zero, List.set_cons_succ]
                    refine wpAnyH_take (i := 8) (v := undef) (by simp only [List.getElem?_toArray, List.getElem?_cons_succ, List.getElem?_cons_zero]; rfl) (by kernel_rfl) (by kernel_rfl) (by kernel_rfl) (fun _ _ _ h => h) (Or.inr ⟨by rfl, rfl⟩) (by assumption) ?_
                    try simp only [Act.put, List.setIfInBounds_toArray, List.set_cons_zero, List.set_cons_succ]
                    refine wpAnyH_take (i := 9) (v := undef) (by simp only [List.getElem?_toArray, List.getElem?_cons_succ, List.getElem?_cons_zero]; rfl) (by kernel_rfl) (by kernel_rfl) (by kernel_rfl) (fun _ _ _ h => h) (Or.inr ⟨by rfl, rfl⟩) (by assumption) ?_
                    try simp only [Act.put, List.setIfInBounds_toArray, List.set_cons_zero, List.set_cons_succ]
                    refine wpAnyH_take (i := 10) (v := undef) (by simp only [List.getElem?_toArray, List.getElem?_cons_succ, List.getElem?_cons_zero]; rfl) (by kernel_rfl) (by kernel_rfl) (by kernel_rfl) (fun _ _ _ h => h) (Or.inr ⟨by rfl, rfl⟩) (by assumption) ?_
                    try simp only [Act.put, List.setIfInBounds_toArray, List.set_cons_zero, List.set_cons_succ]
                    refine wpAnyH_take (i := 11) (v := ?_) (by simp only [List.getElem?_toArray, List.getElem?_cons_succ, List.getElem?_cons_zero]; rfl) (by kernel_rfl) (by kernel_rfl) (by kernel_rfl) (fun _ _ _ h => h) (Or.inl ⟨by rfl, ?_⟩) (by assumption) ?_
                    rotate_left 1
                    · (intro w hSw; (try dsimp only at hSw); go_simp; try with_reducible rfl)
                    try simp only [Act.put, List.setIfInBounds_toArray, List.set_cons_zero, List.set_cons_succ]
                    refine wpAnyH_done (by kernel_rfl) ?_ _
                    refine NoPanic.normal ?_
                    clear hHeld
                    have KZ3 := hide (KZW.out.below B29.out)
                    have B30 := hide (BW.out.trans (B29.out.mono hSw))
                    have z0 := KZ3.out.cell 0
                    have z1 := KZ3.out.cell 1
                    have z2 := KZ3.out.cell 2
                    have z3 := KZ3.out.cell 3
                    have z4 := KZ3.out.cell 4
                    have z5 := KZ3.out.cell 5
                    have z6 := KZ3.out.cell 6
                    simp only [List.getElem?_toArray, List.getElem?_cons_succ, List.getElem?_cons_zero] at z0 z1 z2 z3 z4 z5 z6
                    have f0 := KZ3.out.frozen 0
                    have f1 := KZ3.out.frozen 1
                    have f2 := KZ3.out.frozen 2
                    have f3 := KZ3.out.frozen 3
                    have f4 := KZ3.out.frozen 4
                    have f5 := KZ3.out.frozen 5
                    have f6 := KZ3.out.frozen 6

                    go_wp2_with fail

                    have PS := part_set7 KZ3.out (.int .i64 0) (.int .i64 0) (.int .i64 0) (.int .i64 0) (.int .i64 0) (.slice none 0 0) (.slice none 0 0)
                    refine ret_decR rfl rfl rfl PS.1 rfl ⟨.inr ⟨HN.out, rfl⟩, ?_⟩
                    rw [← HS.out]
                    exact B30.out.trans (PS.2.below (by have := B30.out.size; have := HS.out; omega) (by simp))
                  obtain ⟨cv, hcv⟩ := cv_ex Tryd.prog 30 9
                  have hcb : ∀ w' : World, By w' wr.heap.size (some ⟨b0, off0, none⟩) 128 l → cv (.slice (some ⟨b0, off0, none⟩) 128 c) w' = .ok (.string (txt l)) w' := fun w' h => cv_txt hcv Tryd.underlying30 Tryd.underlying5 Tryd.underlying9 c h
                  have hckn := hide (show (checkP e cc x0 x1 x2 fsj is != 0) = false by rw [hck]; rfl)
                  by_cases henc : encB e cc (wordsB x0 x1 x2 fsj is xs) = l
                  · obtain ⟨EL, hEL⟩ : ∃ x, x = encB e cc (wordsB x0 x1 x2 fsj is xs) := ⟨_, rfl⟩
                    have heq : ((txt EL).toList == (txt l).toList) = true := by rw [hEL]; rw [henc]; exact txt_eq l
                    have HEL := hide hEL
                    clear hEL
                    have s0 := CP.out _ (Below.refl _ _).drew
                    refine wp_region_noPanic ?_
                    refine wp_region_held_drew (S := (fun w' => w'.cell? ⟨S + 1, 0, none⟩ = some (.int .i64 (e : Int)) ∧ w'.cell? ⟨S + 1, 1, none⟩ = some (.int .i64 (cc : Int)) ∧ w'.cell? ⟨S + 1, 2, none⟩ = some (.int .i64 (x0 : Int)) ∧ w'.cell? ⟨S + 1, 3, none⟩ = some (.int .i64 (x1 : Int)) ∧ w'.cell? ⟨S + 1, 4, none⟩ = some (.int .i64 (x2 : Int)) ∧ w'.cell? ⟨S + 1, 5, none⟩ = some (.slice Af n' d) ∧ w'.cell? ⟨S + 1, 6, none⟩ = some (.slice A3 q d3) ∧ By w' wr.heap.size (some ⟨b0, off0, none⟩) 128 l)) (by kernel_rfl) ?_ (fun hHeld => ?_)
                    · ((try dsimp only) <;> (first | trivial | assumption | go_keep))
                    clear s0
                    have bd := (Below.refl wr.heap.size wr).drew
                    refine wpAnyH_take (i := 0) (v := ?_) (by simp only [List.getElem?_toArray, List.getElem?_cons_zero]; rfl) (by kernel_rfl) (by kernel_rfl) (by kernel_rfl) (fun _ _ _ h => h) (Or.inl ⟨by rfl, ?_⟩) (by assumption) ?_
                    rotate_left 1
                    · (intro w hSw; (try dsimp only at hSw); go_simp; try with_reducible rfl)
                    try simp only [Act.put, List.setIfInBounds_toArray, List.set_cons_zero, List.set_cons_succ]
                    refine wpAnyH_ready (rs := [1]) (by kernel_rfl) (by simp) ?_
                    refine AllReadyH.cons (by simp only [List.getElem?_toArray, List.getElem?_cons_succ, List.getElem?_cons_zero]; rfl) (fun K hK => ?_) ?_
                    rotate_left 1
                    · exact AllReadyH.nil
                    go_simp
                    refine CK.out.mono ?_; rintro r w30 ⟨rfl, hb⟩; have B29 := hide (bd.trans (hb.mono bd.size)); clear hb
                    refine hK.out _ _ ?_ (fun hHeld2 => ?_)
                    · ((try dsimp only) <;> (exact CP.out _ B29.out))
                    clear hHeld
                    have hHeld := hHeld2
                    clear hHeld2 hK K
                    try simp only [Act.put, List.setIfInBounds_toArray, List.set_cons_zero, List.set_cons_succ]
                    refine wpAnyH_take (i := 2) (v := ?_) (by simp only [List.getElem?_toArray, List.getElem?_cons_succ, List.getElem?_cons_zero]; rfl) (by kernel_rfl) (by kernel_rfl) (by kernel_rfl) (fun _ _ _ h => h) (Or.inl ⟨by rfl, ?_⟩) (by assumption) ?_
                    rotate_left 1
                    · (intro w hSw; (try dsimp only at hSw); go_simp; try with_reducible rfl)
                    try simp only [Act.put, List.setIfInBounds_toArray, List.set_cons_zero, List.set_cons_succ]
                    try simp only [hckn.out]
                    refine wpAnyH_take (i := 3) (v := ?_) (by simp only [List.getElem?_toArray, List.getElem?_cons_succ, List.getElem?_cons_zero]; rfl) (by kernel_rfl) (by kernel_rfl) (by kernel_rfl) (fun _ _ _ h => h) (Or.inl ⟨by rfl, ?_⟩) (by assumption) ?_
                    rotate_left 1
                    · (intro w hSw; (try dsimp only at hSw); go_simp; try with_reducible rfl)
                    try simp only [Act.put, List.setIfInBounds_toArray, List.set_cons_zero, List.set_cons_succ]
                    refine wpAnyH_take (i := 4) (v := ?_) (by simp only [List.getElem?_toArray, List.getElem?_cons_succ, List.getElem?_cons_zero]; rfl) (by kernel_rfl) (by kernel_rfl) (by kernel_rfl) (fun _ _ _ h => h) (Or.inl ⟨by rfl, ?_⟩) (by assumption) ?_
                    rotate_left 1
                    · (intro w hSw; (try dsimp only at hSw); go_simp; try with_reducible rfl)
                    try simp only [Act.put, List.setIfInBounds_toArray, List.set_cons_zero, List.set_cons_succ]
                    refine wpAnyH_take (i := 5) (v := ?_) (by simp only [List.getElem?_toArray, List.getElem?_cons_succ, List.getElem?_cons_zero]; rfl) (by kernel_rfl) (by kernel_rfl) (by kernel_rfl) (fun _ _ _ h => h) (Or.inl ⟨by rfl, ?_⟩) (by assumption) ?_
                    rotate_left 1
                    · (intro w hSw; (try dsimp only at hSw); go_simp; try with_reducible rfl)
                    try simp only [Act.put, List.setIfInBounds_toArray, List.set_cons_zero, List.set_cons_succ]
                    refine wpAnyH_take (i := 8) (v := ?_) (by simp only [List.getElem?_toArray, List.getElem?_cons_succ, List.getElem?_cons_zero]; rfl) (by kernel_rfl) (by kernel_rfl) (by kernel_rfl) (fun _ _ _ h => h) (Or.inl ⟨by rfl, ?_⟩) (by assumption) ?_
                    rotate_left 1
                    · (intro w hSw; (try dsimp only at hSw); go_simp; try with_reducible rfl)
                    try simp only [Act.put, List.setIfInBounds_toArray, List.set_cons_zero, List.set_cons_succ]
                    refine wpAnyH_take (i := 9) (v := ?_) (by simp only [List.getElem?_toArray, List.getElem?_cons_succ, List.getElem?_cons_zero]; rfl) (by kernel_rfl) (by kernel_rfl) (by kernel_rfl) (fun _ _ _ h => h) (Or.inl ⟨by rfl, ?_⟩) (by assumption) ?_
                    rotate_left 1
                    · (intro w hSw; (try dsimp only at hSw); go_simp; try with_reducible rfl)
                    try simp only [Act.put, List.setIfInBounds_toArray, List.set_cons_zero, List.set_cons_succ]
                    have EC := hide (renc_any e cc x0 x1 x2 xs hxs32 Af A3 n' d q d3 w9.heap.size w9.heap.size wf.heap.size wf.heap.size fsj is w30 (ORW.out.kp (Kp.of_below (gs := []) B29.out) (by simp)).fis (RwAt.of_own (own_bel OW2.out B29.out)) hck)
                    rw [← HEL.out] at EC
                    refine wpAnyH_ready (rs := [6]) (by kernel_rfl) (by simp) ?_
                    refine AllReadyH.cons (by simp only [List.getElem?_toArray, List.getElem?_cons_succ, List.getElem?_cons_zero]; rfl) (fun K hK => ?_) ?_
                    rotate_left 1
                    · exact AllReadyH.nil
                    go_simp
                    refine EC.out.mono ?_; rintro r w31 ⟨Ae, ke, rfl, ho, hb⟩; have hce := cv_txt hcv Tryd.underlying30 Tryd.underlying5 Tryd.underlying9 ke (own_byS ho); have B31 := hide (B29.out.trans (hb.mono B29.out.size)); clear ho hb
                    refine hK.out _ _ ?_ (fun hHeld2 => ?_)
                    · ((try dsimp only) <;> (exact CP.out _ B31.out))
                    clear hHeld
                    have hHeld := hHeld2
                    clear hHeld2 hK K
                    try simp only [Act.put, List.setIfInBounds_toArray, List.set_cons_zero, List.set_cons_succ]
                    refine wpAnyH_ready (rs := [7]) (by kernel_rfl) (by simp) ?_
                    refine AllReadyH.cons (by simp only [List.getElem?_toArray, List.getElem?_cons_succ, List.getElem?_cons_zero]; rfl) (fun K hK => ?_) ?_
                    rotate_left 1
                    · exact AllReadyH.nil
                    go_simp
                    refine hK.out _ _ ?_ (fun hHeld2 => ?_)
                    · ((try dsimp only) <;> (exact CP.out _ B31.out))
                    clear hHeld
                    have hHeld := hHeld2
                    clear hHeld2 hK K
                    try simp only [Act.put, List.setIfInBounds_toArray, List.set_cons_zero, List.set_cons_succ]
                    refine wpAnyH_take (i := 10) (v := ?_) (by simp only [List.getElem?_toArray, List.getElem?_cons_succ, List.getElem?_cons_zero]; rfl) (by kernel_rfl) (by kernel_rfl) (by kernel_rfl) (fun _ _ _ h => h) (Or.inl ⟨by rfl, ?_⟩) (by assumption) ?_
                    rotate_left 1
                    · (intro w hSw; (try dsimp only at hSw); go_simp; try with_reducible rfl)
                    try simp only [Act.put, List.setIfInBounds_toArray, List.set_cons_zero, List.set_cons_succ]
                    try simp only [heq, Bool.not_true, Bool.not_false]
                    refine wpAnyH_take (i := 11) (v := ?_) (by simp only [List.getElem?_toArray, List.getElem?_cons_succ, List.getElem?_cons_zero]; rfl) (by kernel_rfl) (by kernel_rfl) (by kernel_rfl) (fun _ _ _ h => h) (Or.inl ⟨by rfl, ?_⟩) (by assumption) ?_
                    rotate_left 1
                    · (intro w hSw; (try dsimp only at hSw); go_simp; try with_reducible rfl)
                    try simp only [Act.put, List.setIfInBounds_toArray, List.set_cons_zero, List.set_cons_succ]
                    refine wpAnyH_done (by kernel_rfl) ?_ _
                    refine NoPanic.normal ?_
                    clear hHeld hce heq
                    have KZ3 := hide (KZW.out.below B31.out)
                    have B30 := hide (BW.out.trans (B31.out.mono hSw))
                    have z0 := KZ3.out.cell 0
                    have z1 := KZ3.out.cell 1
                    have z2 := KZ3.out.cell 2
                    have z3 := KZ3.out.cell 3
                    have z4 := KZ3.out.cell 4
                    have z5 := KZ3.out.cell 5
                    have z6 := KZ3.out.cell 6
                    simp only [List.getElem?_toArray, List.getElem?_cons_succ, List.getElem?_cons_zero] at z0 z1 z2 z3 z4 z5 z6
                    have f0 := KZ3.out.frozen 0
                    have f1 := KZ3.out.frozen 1
                    have f2 := KZ3.out.frozen 2
                    have f3 := KZ3.out.frozen 3
                    have f4 := KZ3.out.frozen 4
                    have f5 := KZ3.out.frozen 5
                    have f6 := KZ3.out.frozen 6
                    have X31 := hide (XF.out.below B31.out)
                    have y0 := X31.out.cell 0
                    have y1 := X31.out.cell 1
                    have y2 := X31.out.cell 2
                    have y3 := X31.out.cell 3
                    have y4 := X31.out.cell 4
                    have y5 := X31.out.cell 5
                    have y6 := X31.out.cell 6
                    simp only [List.getElem?_toArray, List.getElem?_cons_succ, List.getElem?_cons_zero] at y0 y1 y2 y3 y4 y5 y6
                    have OR31 := hide (ORW.out.kp (Kp.of_below (gs := []) B31.out) (by simp))
                    have OW31 := hide (own_bel OW2.out B31.out)
                    go_wp2_with fail
                    have PS := part_set7 KZ3.out (.int .i64 (e : Int)) (.int .i64 (cc : Int)) (.int .i64 (x0 : Int)) (.int .i64 (x1 : Int)) (.int .i64 (x2 : Int)) (.slice Af n' d) (.slice A3 q d3)
                    refine ret_decR rfl rfl rfl PS.1 rfl ⟨.inl ⟨⟨e, cc, x0, x1, x2, fsj, is⟩, xs, ⟨hck, hxs32, henc.symm⟩, Af, d, A3, d3, cs, ?_, ?_, ?_⟩, ?_⟩
                    · dsimp only
                      rw [HIS.out.1, HIS.out.2]
                      rfl
                    · dsimp only
                      rw [HIS.out.2]
                      exact (OR31.out.kp PS.2 (by intro g hg; have := SZ.out; simp only [List.mem_singleton] at hg; omega)).bq HSS.out.2
                    · dsimp only
                      rw [HIS.out.1]
                      exact own_bq (own_kq OW31.out PS.2 (fun g hg => by have h1 := (OW31.out.lt g hg).1; have h2 := SZ2.out; simp only [List.mem_singleton]; omega)) HSS.out.1
                    · rw [← HS.out]
                      exact B30.out.trans (PS.2.below (by have := B30.out.size; have := HS.out; omega) (by simp))
                  · obtain ⟨EL, hEL⟩ : ∃ x, x = encB e cc (wordsB x0 x1 x2 fsj is xs) := ⟨_, rfl⟩
                    have heq : ((txt EL).toList == (txt l).toList) = false := by rw [hEL]; exact txt_ne henc
                    have HEL := hide hEL
                    clear hEL
                    have s0 := CP.out _ (Below.refl _ _).drew
                    refine wp_region_noPanic ?_
                    refine wp_region_held_drew (S := (fun w' => w'.cell? ⟨S + 1, 0, none⟩ = some (.int .i64 (e : Int)) ∧ w'.cell? ⟨S + 1, 1, none⟩ = some (.int .i64 (cc : Int)) ∧ w'.cell? ⟨S + 1, 2, none⟩ = some (.int .i64 (x0 : Int)) ∧ w'.cell? ⟨S + 1, 3, none⟩ = some (.int .i64 (x1 : Int)) ∧ w'.cell? ⟨S + 1, 4, none⟩ = some (.int .i64 (x2 : Int)) ∧ w'.cell? ⟨S + 1, 5, none⟩ = some (.slice Af n' d) ∧ w'.cell? ⟨S + 1, 6, none⟩ = some (.slice A3 q d3) ∧ By w' wr.heap.size (some ⟨b0, off0, none⟩) 128 l)) (by kernel_rfl) ?_ (fun hHeld => ?_)
                    · ((try dsimp only) <;> (first | trivial | assumption | go_keep))
                    clear s0
                    have bd := (Below.refl wr.heap.size wr).drew
                    refine wpAnyH_take (i := 0) (v := ?_) (by simp only [List.getElem?_toArray, List.getElem?_cons_zero]; rfl) (by kernel_rfl) (by kernel_rfl) (by kernel_rfl) (fun _ _ _ h => h) (Or.inl ⟨by rfl, ?_⟩) (by assumption) ?_
                    rotate_left 1
                    · (intro w hSw; (try dsimp only at hSw); go_simp; try with_reducible rfl)
                    try simp only [Act.put, List.setIfInBounds_toArray, List.set_cons_zero, List.set_cons_succ]
                    refine wpAnyH_ready (rs := [1]) (by kernel_rfl) (by simp) ?_
                    refine AllReadyH.cons (by simp only [List.getElem?_toArray, List.getElem?_cons_succ, List.getElem?_cons_zero]; rfl) (fun K hK => ?_) ?_
                    rotate_left 1
                    · exact AllReadyH.nil
                    go_simp
                    refine CK.out.mono ?_; rintro r w30 ⟨rfl, hb⟩; have B29 := hide (bd.trans (hb.mono bd.size)); clear hb
                    refine hK.out _ _ ?_ (fun hHeld2 => ?_)
                    · ((try dsimp only) <;> (exact CP.out _ B29.out))
                    clear hHeld
                    have hHeld := hHeld2
                    clear hHeld2 hK K
                    try simp only [Act.put, List.setIfInBounds_toArray, List.set_cons_zero, List.set_cons_succ]
                    refine wpAnyH_take (i := 2) (v := ?_) (by simp only [List.getElem?_toArray, List.getElem?_cons_succ, List.getElem?_cons_zero]; rfl) (by kernel_rfl) (by kernel_rfl) (by kernel_rfl) (fun _ _ _ h => h) (Or.inl ⟨by rfl, ?_⟩) (by assumption) ?_
                    rotate_left 1
                    · (intro w hSw; (try dsimp only at hSw); go_simp; try with_reducible rfl)
                    try simp only [Act.put, List.setIfInBounds_toArray, List.set_cons_zero, List.set_cons_succ]
                    try simp only [hckn.out]
                    refine wpAnyH_take (i := 3) (v := ?_) (by simp only [List.getElem?_toArray, List.getElem?_cons_succ, List.getElem?_cons_zero]; rfl) (by kernel_rfl) (by kernel_rfl) (by kernel_rfl) (fun _ _ _ h => h) (Or.inl ⟨by rfl, ?_⟩) (by assumption) ?_
                    rotate_left 1
                    · (intro w hSw; (try dsimp only at hSw); go_simp; try with_reducible rfl)
                    try simp only [Act.put, List.setIfInBounds_toArray, List.set_cons_zero, List.set_cons_succ]
                    refine wpAnyH_take (i := 4) (v := ?_) (by simp only [List.getElem?_toArray, List.getElem?_cons_succ, List.getElem?_cons_zero]; rfl) (by kernel_rfl) (by kernel_rfl) (by kernel_rfl) (fun _ _ _ h => h) (Or.inl ⟨by rfl, ?_⟩) (by assumption) ?_
                    rotate_left 1
                    · (intro w hSw; (try dsimp only at hSw); go_simp; try with_reducible rfl)
                    try simp only [Act.put, List.setIfInBounds_toArray, List.set_cons_zero, List.set_cons_succ]
                    refine wpAnyH_take (i := 5) (v := ?_) (by simp only [List.getElem?_toArray, List.getElem?_cons_succ, List.getElem?_cons_zero]; rfl) (by kernel_rfl) (by kernel_rfl) (by kernel_rfl) (fun _ _ _ h => h) (Or.inl ⟨by rfl, ?_⟩) (by assumption) ?_
                    rotate_left 1
                    · (intro w hSw; (try dsimp only at hSw); go_simp; try with_reducible rfl)
                    try simp only [Act.put, List.setIfInBounds_toArray, List.set_cons_zero, List.set_cons_succ]
                    refine wpAnyH_take (i := 8) (v := ?_) (by simp only [List.getElem?_toArray, List.getElem?_cons_succ, List.getElem?_cons_zero]; rfl) (by kernel_rfl) (by kernel_rfl) (by kernel_rfl) (fun _ _ _ h => h) (Or.inl ⟨by rfl, ?_⟩) (by assumption) ?_
                    rotate_left 1
                    · (intro w hSw; (try dsimp only at hSw); go_simp; try with_reducible rfl)
                    try simp only [Act.put, List.setIfInBounds_toArray, List.set_cons_zero, List.set_cons_succ]
                    refine wpAnyH_take (i := 9) (v := ?_) (by simp only [List.getElem?_toArray, List.getElem?_cons_succ, List.getElem?_cons_zero]; rfl) (by kernel_rfl) (by kernel_rfl) (by kernel_rfl) (fun _ _ _ h => h) (Or.inl ⟨by rfl, ?_⟩) (by assumption) ?_
                    rotate_left 1
                    · (intro w hSw; (try dsimp only at hSw); go_simp; try with_reducible rfl)
                    try simp only [Act.put, List.setIfInBounds_toArray, List.set_cons_zero, List.set_cons_succ]
                    have EC := hide (renc_any e cc x0 x1 x2 xs hxs32 Af A3 n' d q d3 w9.heap.size w9.heap.size wf.heap.size wf.heap.size fsj is w30 (ORW.out.kp (Kp.of_below (gs := []) B29.out) (by simp)).fis (RwAt.of_own (own_bel OW2.out B29.out)) hck)
                    rw [← HEL.out] at EC
                    refine wpAnyH_ready (rs := [6]) (by kernel_rfl) (by simp) ?_
                    refine AllReadyH.cons (by simp only [List.getElem?_toArray, List.getElem?_cons_succ, List.getElem?_cons_zero]; rfl) (fun K hK => ?_) ?_
                    rotate_left 1
                    · exact AllReadyH.nil
                    go_simp
                    refine EC.out.mono ?_; rintro r w31 ⟨Ae, ke, rfl, ho, hb⟩; have hce := cv_txt hcv Tryd.underlying30 Tryd.underlying5 Tryd.underlying9 ke (own_byS ho); have B31 := hide (B29.out.trans (hb.mono B29.out.size)); clear ho hb
                    refine hK.out _ _ ?_ (fun hHeld2 => ?_)
                    · ((try dsimp only) <;> (exact CP.out _ B31.out))
                    clear hHeld
                    have hHeld := hHeld2
                    clear hHeld2 hK K
                    try simp only [Act.put, List.setIfInBounds_toArray, List.set_cons_zero, List.set_cons_succ]
                    refine wpAnyH_ready (rs := [7]) (by kernel_rfl) (by simp) ?_
                    refine AllReadyH.cons (by simp only [List.getElem?_toArray, List.getElem?_cons_succ, List.getElem?_cons_zero]; rfl) (fun K hK => ?_) ?_
                    rotate_left 1
                    · exact AllReadyH.nil
                    go_simp
                    refine hK.out _ _ ?_ (fun hHeld2 => ?_)
                    · ((try dsimp only) <;> (exact CP.out _ B31.out))
                    clear hHeld
                    have hHeld := hHeld2
                    clear hHeld2 hK K
                    try simp only [Act.put, List.setIfInBounds_toArray, List.set_cons_zero, List.set_cons_succ]
                    refine wpAnyH_take (i := 10) (v := ?_) (by simp only [List.getElem?_toArray, List.getElem?_cons_succ, List.getElem?_cons_zero]; rfl) (by kernel_rfl) (by kernel_rfl) (by kernel_rfl) (fun _ _ _ h => h) (Or.inl ⟨by rfl, ?_⟩) (by assumption) ?_
                    rotate_left 1
                    · (intro w hSw; (try dsimp only at hSw); go_simp; try with_reducible rfl)
                    try simp only [Act.put, List.setIfInBounds_toArray, List.set_cons_zero, List.set_cons_succ]
                    try simp only [heq, Bool.not_true, Bool.not_false]
                    refine wpAnyH_take (i := 11) (v := ?_) (by simp only [List.getElem?_toArray, List.getElem?_cons_succ, List.getElem?_cons_zero]; rfl) (by kernel_rfl) (by kernel_rfl) (by kernel_rfl) (fun _ _ _ h => h) (Or.inl ⟨by rfl, ?_⟩) (by assumption) ?_
                    rotate_left 1
                    · (intro w hSw; (try dsimp only at hSw); go_simp; try with_reducible rfl)
                    try simp only [Act.put, List.setIfInBounds_toArray, List.set_cons_zero, List.set_cons_succ]
                    refine wpAnyH_done (by kernel_rfl) ?_ _
                    refine NoPanic.normal ?_
                    clear hHeld hce heq
                    have KZ3 := hide (KZW.out.below B31.out)
                    have B30 := hide (BW.out.trans (B31.out.mono hSw))
                    have z0 := KZ3.out.cell 0
                    have z1 := KZ3.out.cell 1
                    have z2 := KZ3.out.cell 2
                    have z3 := KZ3.out.cell 3
                    have z4 := KZ3.out.cell 4
                    have z5 := KZ3.out.cell 5
                    have z6 := KZ3.out.cell 6
                    simp only [List.getElem?_toArray, List.getElem?_cons_succ, List.getElem?_cons_zero] at z0 z1 z2 z3 z4 z5 z6
                    have f0 := KZ3.out.frozen 0
                    have f1 := KZ3.out.frozen 1
                    have f2 := KZ3.out.frozen 2
                    have f3 := KZ3.out.frozen 3
                    have f4 := KZ3.out.frozen 4
                    have f5 := KZ3.out.frozen 5
                    have f6 := KZ3.out.frozen 6
                    have HN := hide (show ∀ v s, ¬ IsEnc l v s from fun v s hv => henc (by
                      have h1 := (parse_okR l).2 ⟨v, s, hv⟩
                      rw [HV.out] at h1
                      exact h1.2))
                    go_wp2_with fail

                    have PS := part_set7 KZ3.out (.int .i64 0) (.int .i64 0) (.int .i64 0) (.int .i64 0) (.int .i64 0) (.slice none 0 0) (.slice none 0 0)
                    refine ret_decR rfl rfl rfl PS.1 rfl ⟨.inr ⟨HN.out, rfl⟩, ?_⟩
                    rw [← HS.out]
                    exact B30.out.trans (PS.2.below (by have := B30.out.size; have := HS.out; omega) (by simp))
          · have hjs : ¬ (j : Int) < (xf : Int) := by omega
            clear hcnd
            go_wp2_with fail
            refine (at_anyZ Ar N kr (4) W _ wf BY.out (by omega) hN1 _ (by omega)).mono ?_
            rintro r w' ⟨rfl, hw⟩
            rw [hw]
            clear hw w'
            rw [← Hxf.out]
            go_wp2_with fail
            go_loopw [9, 14] (fun u v wr => ∃ (q d3 : Nat) (A3 : Option Addr), q ≤ C ∧ u = .int .i64 ((i : Int) + (q : Int)) ∧ v = .int .i64 (q : Int) ∧ Blk wr (S + 1) 25 #[.int .i64 (e : Int), .int .i64 (cc : Int), .int .i64 (x0 : Int), .int .i64 (x1 : Int), .int .i64 (x2 : Int), .slice Af n' d, .slice A3 q d3] ∧ wr.ownsRow wf.heap.size 3 1 (.slice A3 q d3) q (intC (pIs q (W.drop i))) ∧ Kp [S + 1] wf wr) (fun _ v _ => C - (intOf v).toNat)
            case atStart => exact ⟨0, 0, none, by omega, by simp, rfl, KP.out, World.ownsRow_nil _ _ _ _, Kp.refl _ _⟩
            case round =>
              have OWF := OW6
              clear KP OW6 BY
              obtain ⟨q, d3, A3, hq, rfl, rfl, hX, ho, hk⟩ := hrel
              have XF := hide hX
              have OW := hide ho
              have KJ := hide hk
              have OW6 := hide (own_kq OWF.out hk (fun g hg => by have h1 := (OWF.out.lt g hg).1; have h2 := L5.out; simp only [List.mem_singleton]; omega))
              have BY := hide (own_byS OW6.out)
              clear hX ho hk
              by_cases hlq : q < C
              · obtain ⟨hqm, hq88⟩ := hC3 q hlq
                have hqs : (q : Int) < (xi : Int) := by omega
                have hqi : (i : Int) + (q : Int) < 88 := by omega
                have hq64 : IntKind.i64.wrap (q : Int) = (q : Int) := by rw [IntKind.wrap_i64]; omega
                have p1 : IntKind.i64.wrap ((i : Int) + (q : Int) + 1) = (i : Int) + (q : Int) + 1 := by rw [IntKind.wrap_i64]; omega
                have bd := (Below.refl wr.heap.size wr).drew
                have X8 := hide (XF.out.below bd)
                have O8 := hide (own_bel OW.out bd)
                have Y8 := hide (Sl.drew BY.out)
                clear bd
                have z6 := XF.out.cell 6
                simp only [List.getElem?_toArray, List.getElem?_cons_succ, List.getElem?_cons_zero] at z6
                obtain ⟨xl, hxl⟩ : ∃ x : Nat, x = nx 1 (W.drop (i + q)) := ⟨_, rfl⟩
                have HXL := hide hxl
                have hx6 : xl < 256 := by rw [hxl]; exact nx1_lt _
                clear hxl
                go_wp2_with fail
                refine (at_anyZ Ar N kr (5) W _ wr BY.out (by omega) hN1 _ (by omega)).mono ?_
                rintro r w' ⟨rfl, hw⟩
                rw [hw]
                clear hw w'
                rw [← Hxi.out]
                go_wp2_with fail
                refine wp_region_noPanic ?_
                refine wp_region_last (n := 8) (S := (fun w' => w'.cell? ⟨S + 1, 6, none⟩ = some (.slice A3 q d3))) (by kernel_rfl) (by rfl) (by kernel_rfl) ?_ (fun hHeld => ?_)
                · ((try dsimp only) <;> (first | trivial | assumption | go_keep))
                clear z6
                refine wpAnyH_take (i := 0) (v := ?_) (by simp only [List.getElem?_toArray, List.getElem?_cons_zero]; rfl) (by kernel_rfl) (by kernel_rfl) (by kernel_rfl) (fun _ _ _ h => h) (Or.inl ⟨by rfl, ?_⟩) (by assumption) ?_
                rotate_left 1
                · (intro w hSw; (try dsimp only at hSw); go_simp; try with_reducible rfl)
                try simp only [Act.put, List.setIfInBounds_toArray, List.set_cons_zero, List.set_cons_succ]
                refine wpAnyH_take (i := 1) (v := ?_) (by simp only [List.getElem?_toArray, List.getElem?_cons_succ, List.getElem?_cons_zero]; rfl) (by kernel_rfl) (by kernel_rfl) (by kernel_rfl) (fun _ _ _ h => h) (Or.inl ⟨by rfl, ?_⟩) (by assumption) ?_
                rotate_left 1
                · (intro w hSw; (try dsimp only at hSw); go_simp; try with_reducible rfl)
                try simp only [Act.put, List.setIfInBounds_toArray, List.set_cons_zero, List.set_cons_succ]
                refine wpAnyH_take (i := 2) (v := ?_) (by simp only [List.getElem?_toArray, List.getElem?_cons_succ, List.getElem?_cons_zero]; rfl) (by kernel_rfl) (by kernel_rfl) (by kernel_rfl) (fun _ _ _ h => h) (Or.inl ⟨by rfl, ?_⟩) (by assumption) ?_
                rotate_left 1
                · (intro w hSw; (try dsimp only at hSw); go_simp; try with_reducible rfl)
                try simp only [Act.put, List.setIfInBounds_toArray, List.set_cons_zero, List.set_cons_succ]
                refine wpAnyH_take (i := 3) (v := ?_) (by simp only [List.getElem?_toArray, List.getElem?_cons_succ, List.getElem?_cons_zero]; rfl) (by kernel_rfl) (by kernel_rfl) (by kernel_rfl) (fun _ _ _ h => h) (Or.inl ⟨by rfl, ?_⟩) (by assumption) ?_
                rotate_left 1
                · (intro w hSw; (try dsimp only at hSw); go_simp; try with_reducible rfl)
                try simp only [Act.put, List.setIfInBounds_toArray, List.set_cons_zero, List.set_cons_succ]
                refine wpAnyH_ready (rs := [4]) (by kernel_rfl) (by simp) ?_
                refine AllReadyH.cons (by simp only [List.getElem?_toArray, List.getElem?_cons_succ, List.getElem?_cons_zero]; rfl) (fun K hK => ?_) ?_
                rotate_left 1
                · exact AllReadyH.nil
                go_simp
                refine (at_anyZ Ar N kr (i + q) W _ wr.drew Y8.out (by omega) hN1 _ (by omega)).mono ?_; rintro r w' ⟨rfl, hw⟩; rw [hw]; clear hw w'; rw [← HXL.out]
                refine hK.out _ _ ?_ (fun hHeld2 => ?_)
                · ((try dsimp only) <;> (exact X8.out.cell 6))
                clear hHeld
                have hHeld := hHeld2
                clear hHeld2 hK K
                try simp only [Act.put, List.setIfInBounds_toArray, List.set_cons_zero, List.set_cons_succ]
                refine wpAnyH_ready (rs := [5]) (by kernel_rfl) (by simp) ?_
                refine AllReadyH.cons (by simp only [List.getElem?_toArray, List.getElem?_cons_succ, List.getElem?_cons_zero]; rfl) (fun K hK => ?_) ?_
                rotate_left 1
                · exact AllReadyH.nil
                go_simp
                refine hK.out _ _ ?_ (fun hHeld2 => ?_)
                · ((try dsimp only) <;> (exact (X8.out.alloc _).cell 6))
                clear hHeld
                have hHeld := hHeld2
                clear hHeld2 hK K
                try simp only [Act.put, List.setIfInBounds_toArray, List.set_cons_zero, List.set_cons_succ]
                have b19 := hide (((Below.refl wr.heap.size wr).alloc (Nat.le_refl _) (.cells #[.int .i64 (xl : Int)] 3)).drew)
                have X91 := hide (XF.out.below b19.out)
                have O91 := hide (own_bel OW.out b19.out)
                have K91 := hide (KJ.out.trans (Kp.of_below b19.out))
                refine wpAnyH_ready (rs := [6]) (by kernel_rfl) (by simp) ?_
                refine AllReadyH.cons (by simp only [List.getElem?_toArray, List.getElem?_cons_succ, List.getElem?_cons_zero]; rfl) (fun K hK => ?_) ?_
                rotate_left 1
                · exact AllReadyH.nil
                refine step_app rfl (.tmp 158) (.tmp 162) _ (by rfl) etyJ wf.heap.size (.slice A3 q d3) q _ (by rfl) O91.out (wr.heap.size + 1) (some ⟨wr.heap.size, 0, none⟩) 1 1 (intC [(xl : Int)]) (by rfl) (etyJ1 wr _).drew (intC_one _) (by omega) K91.out.size ?_; intro A9 k9 w20 hown hg _; have X10 := hide (blk_grT X91.out O91.out (by decide) hg); have K10 := hide (Kp.gr8 K91.out hg (fun k hk => (O91.out.lt k hk).1)); have O10 := hide hown; clear hown hg
                refine hK.out _ _ ?_ (fun hHeld2 => ?_)
                · ((try dsimp only) <;> (exact X10.out.cell 6))
                clear hHeld
                have hHeld := hHeld2
                clear hHeld2 hK K
                try simp only [Act.put, List.setIfInBounds_toArray, List.set_cons_zero, List.set_cons_succ]
                refine wpAnyH_take (i := 7) (v := ?_) (by simp only [List.getElem?_toArray, List.getElem?_cons_succ, List.getElem?_cons_zero]; rfl) (by kernel_rfl) (by kernel_rfl) (by kernel_rfl) (fun _ _ _ h => h) (Or.inl ⟨by rfl, ?_⟩) (by assumption) ?_
                rotate_left 1
                · (intro w hSw; (try dsimp only at hSw); go_simp; try with_reducible rfl)
                try simp only [Act.put, List.setIfInBounds_toArray, List.set_cons_zero, List.set_cons_succ]
                have z6 := X10.out.cell 6
                have f6 := X10.out.frozen 6
                simp only [List.getElem?_toArray, List.getElem?_cons_succ, List.getElem?_cons_zero] at z6
                refine wpAnyH_done (by kernel_rfl) ?_ _
                refine LastQ.step (by simp only [List.getElem?_toArray, List.getElem?_cons_succ, List.getElem?_cons_zero]; rfl) (by rfl) ?_
                go_simp
                refine NoPanic.normal ?_
                have hkF : Kp [S + 1] w20 (w20.setCell ⟨S + 1, 6, none⟩ (.slice A9 (q + 1) k9)) := (Kp.refl _ w20).set (p := ⟨S + 1, 6, none⟩) (.inl (by simp)) _
                have K11 := hide (K10.out.trans hkF)
                have X11 := hide (X10.out.set 6 (.slice A9 (q + 1) k9))
                have O11 := hide (own_kq O10.out hkF (fun g hg => by have h1 := (O10.out.lt g hg).1; have h2 := SZ2.out; simp only [List.mem_singleton]; omega))
                clear hHeld z6 f6 X10 O10 K10 X91 O91 K91 b19 X8 O8 Y8 hkF
                go_wp2_with fail
                refine ⟨⟨q + 1, k9, A9, by omega, by simp; omega, rfl, by simpa [List.setIfInBounds_toArray] using X11.out, ?_, K11.out⟩, by simp [intOf]; omega⟩
                have h1 := O11.out
                rw [intC_apps] at h1
                rw [pIs_succ, List.drop_drop, ← HXL.out]
                exact h1
              · have hqC : q = C := by omega
                have hend := hC4 q hq hlq
                clear hC3 hC4
                obtain ⟨is, his⟩ : ∃ x, x = pIs q (W.drop i) := ⟨_, rfl⟩
                have HIS := hide (show is.length = q ∧ fsj.length = n' from ⟨by rw [his, pIs_len], OR.out.l1⟩)
                have HV : Hid (parseR l = (⟨e, cc, x0, x1, x2, fsj, is⟩, xs)) := hide (by
                  unfold parseR parseRW
                  dsimp only
                  rw [← HW.out, ← Hxf.out, ← Hxi.out, HFS.out]
                  dsimp only
                  have h00 := Hx0.out
                  rw [List.drop_zero] at h00
                  rw [← HEC.out.1, ← HEC.out.2, ← h00, ← Hx1.out, ← Hx2.out, ← Hxs.out, his, hqC, HC2.out])
                have OW2 := hide (show wr.ownsRow wf.heap.size 3 1 (.slice A3 q d3) q (intC is) by rw [his]; exact OW.out)
                have ORW := hide (OR.out.kp KJ.out (by intro g hg; have := SZ.out; simp only [List.mem_singleton] at hg; omega))
                have KZW := hide (KZ2.out.kp KJ.out (by simp))
                have hSw : S ≤ wr.heap.size := by have := SZ2.out; have := KJ.out.size; omega
                have BW := hide (BN.out.trans (KJ.out.below (by have := SZ2.out; omega) (by simp)))
                have BYL := hide (show By wr wr.heap.size (some ⟨b0, off0, none⟩) 128 l from RwAt.sl (HBy.out wr BW.out))
                have HSS := hide (show w.heap.size ≤ wf.heap.size ∧ w.heap.size ≤ w9.heap.size from ⟨by rw [← HS.out]; have := SZ2.out; omega, by rw [← HS.out]; have := SZ.out; omega⟩)
                clear his hqC OW
                by_cases hqm : q < xi
                · have hqs : (q : Int) < (xi : Int) := by omega
                  have hqi : ¬ (i : Int) + (q : Int) < 88 := by omega
                  clear hend
                  go_wp2_with fail
                  refine (at_anyZ Ar N kr (5) W _ wr BY.out (by omega) hN1 _ (by omega)).mono ?_
                  rintro r w' ⟨rfl, hw⟩
                  rw [hw]
                  clear hw w'
                  rw [← Hxi.out]
                  have hcls : n' ≤ 100000 ∧ q ≤ 100000 ∧ lsN fsj ≤ 100000 := by omega
                  have CK := hide (rcheck_any e cc x0 x1 x2 Af A3 n' d q d3 w9.heap.size w9.heap.size wf.heap.size wf.heap.size fsj is wr.drew (ORW.out.kp (Kp.of_below (gs := []) (Below.refl _ _).drew) (by simp)).fis (RwAt.of_own (own_bel OW2.out (Below.refl _ _).drew)) hcls.1 hcls.2.1 hcls.2.2 HBD.out)
                  have CP := hide (fun (w' : World) (hb : Below wr.heap.size wr w') => show w'.cell? ⟨S + 1, 0, none⟩ = some (.int .i64 (e : Int)) ∧ w'.cell? ⟨S + 1, 1, none⟩ = some (.int .i64 (cc : Int)) ∧ w'.cell? ⟨S + 1, 2, none⟩ = some (.int .i64 (x0 : Int)) ∧ w'.cell? ⟨S + 1, 3, none⟩ = some (.int .i64 (x1 : Int)) ∧ w'.cell? ⟨S + 1, 4, none⟩ = some (.int .i64 (x2 : Int)) ∧ w'.cell? ⟨S + 1, 5, none⟩ = some (.slice Af n' d) ∧ w'.cell? ⟨S + 1, 6, none⟩ = some (.slice A3 q d3) ∧ By w' wr.heap.size (some ⟨b0, off0, none⟩) 128 l from ⟨(XF.out.below hb).cell 0, (XF.out.below hb).cell 1, (XF.out.below hb).cell 2, (XF.out.below hb).cell 3, (XF.out.below hb).cell 4, (XF.out.below hb).cell 5, (XF.out.below hb).cell 6, Sl.below BYL.out hb⟩)
                  clear hcls
                  go_wp2_with fail
                  by_cases hck : checkP e cc x0 x1 x2 fsj is = 0
                  rotate_left
                  · have HN := hide (show ∀ v s, ¬ IsEnc l v s from fun v s hv => hck (by
                      have h1 := (parse_okR l).2 ⟨v, s, hv⟩
                      rw [HV.out] at h1
                      exact h1.1))
                    have hckn := hide (show (checkP e cc x0 x1 x2 fsj is != 0) = true from bne_iff_ne.2 hck)
                    generalize checkP (e : Int) cc x0 x1 x2 fsj is = ck at *
                    have s0 := CP.out _ (Below.refl _ _).drew
                    refine wp_region_noPanic ?_
                    refine wp_region_held_drew (S := (fun w' => w'.cell? ⟨S + 1, 0, none⟩ = some (.int .i64 (e : Int)) ∧ w'.cell? ⟨S + 1, 1, none⟩ = some (.int .i64 (cc : Int)) ∧ w'.cell? ⟨S + 1, 2, none⟩ = some (.int .i64 (x0 : Int)) ∧ w'.cell? ⟨S + 1, 3, none⟩ = some (.int .i64 (x1 : Int)) ∧ w'.cell? ⟨S + 1, 4, none⟩ = some (.int .i64 (x2 : Int)) ∧ w'.cell? ⟨S + 1, 5, none⟩ = some (.slice Af n' d) ∧ w'.cell? ⟨S + 1, 6, none⟩ = some (.slice A3 q d3) ∧ By w' wr.heap.size (some ⟨b0, off0, none⟩) 128 l)) (by kernel_rfl) ?_ (fun hHeld => ?_)
                    · ((try dsimp only) <;> (first | trivial | assumption | go_keep))
                    clear s0
                    have bd := (Below.refl wr.heap.size wr).drew
                    refine wpAnyH_take (i := 0) (v := ?_) (by simp only [List.getElem?_toArray, List.getElem?_cons_zero]; rfl) (by kernel_rfl) (by kernel_rfl) (by kernel_rfl) (fun _ _ _ h => h) (Or.inl ⟨by rfl, ?_⟩) (by assumption) ?_
                    rotate_left 1
                    · (intro w hSw; (try dsimp only at hSw); go_simp; try with_reducible rfl)
                    try simp only [Act.put, List.setIfInBounds_toArray, List.set_cons_zero, List.set_cons_succ]
                    refine wpAnyH_ready (rs := [1]) (by kernel_rfl) (by simp) ?_
                    refine AllReadyH.cons (by simp only [List.getElem?_toArray, List.getElem?_cons_succ, List.getElem?_cons_zero]; rfl) (fun K hK => ?_) ?_
                    rotate_left 1
                    · exact AllReadyH.nil
                    go_simp
                    refine CK.out.mono ?_; rintro r w30 ⟨rfl, hb⟩; have B29 := hide (bd.trans (hb.mono bd.size)); clear hb
                    refine hK.out _ _ ?_ (fun hHeld2 => ?_)
                    · ((try dsimp only) <;> (exact CP.out _ B29.out))
                    clear hHeld
                    have hHeld := hHeld2
                    clear hHeld2 hK K
                    try simp only [Act.put, List.setIfInBounds_toArray, List.set_cons_zero, List.set_cons_succ]
                    refine wpAnyH_take (i := 2) (v := ?_) (by simp only [List.getElem?_toArray, List.getElem?_cons_succ, List.getElem?_cons_zero]; rfl) (by kernel_rfl) (by kernel_rfl) (by kernel_rfl) (fun _ _ _ h => h) (Or.inl ⟨by rfl, ?_⟩) (by assumption) ?_
                    rotate_left 1
                    · (intro w hSw; (try dsimp only at hSw); go_simp; try with_reducible rfl)
                    try simp only [Act.put, List.setIfInBounds_toArray, List.set_cons_zero, List.set_cons_succ]
                    try simp only [hckn.out]
                    refine wpAnyH_take (i := 3) (v := ?_) (by simp only [List.getElem?_toArray, List.getElem?_cons_succ, List.getElem?_cons_zero]; rfl) (by kernel_rfl) (by kernel_rfl) (by kernel_rfl) (fun _ _ _ h => h) (Or.inl ⟨by rfl, ?_⟩) (by assumption) ?_
                    rotate_left 1
                    · (intro w hSw; (try dsimp only at hSw); go_simp; try with_reducible rfl)
                    try simp only [Act.put, List.setIfInBounds_toArray, List.set_cons_zero, List.set_cons_succ]
                    refine wpAnyH_take (i := 4) (v := undef) (by simp only [List.getElem?_toArray, List.getElem?_cons_succ, List.getElem?_cons_zero]; rfl) (by kernel_rfl) (by kernel_rfl) (by kernel_rfl) (fun _ _ _ h => h) (Or.inr ⟨by rfl, rfl⟩) (by assumption) ?_
                    try simp only [Act.put, List.setIfInBounds_toArray, List.set_cons_zero, List.set_cons_succ]
                    refine wpAnyH_take (i := 5) (v := undef) (by simp only [List.getElem?_toArray, List.getElem?_cons_succ, List.getElem?_cons_zero]; rfl) (by kernel_rfl) (by kernel_rfl) (by kernel_rfl) (fun _ _ _ h => h) (Or.inr ⟨by rfl, rfl⟩) (by assumption) ?_
                    try simp only [Act.put, List.setIfInBounds_toArray, List.set_cons_zero, List.set_cons_succ]
                    refine wpAnyH_take (i := 6) (v := undef) (by simp only [List.getElem?_toArray, List.getElem?_cons_succ, List.getElem?_cons_zero]; rfl) (by kernel_rfl) (by kernel_rfl) (by kernel_rfl) (fun _ _ _ h => h) (Or.inr ⟨by rfl, rfl⟩) (by assumption) ?_
                    try simp only [Act.put, List.setIfInBounds_toArray, List.set_cons_zero, List.set_cons_succ]
                    refine wpAnyH_take (i := 7) (v := undef) (by simp only [List.getElem?_toArray, List.getElem?_cons_succ, List.getElem?_cons_zero]; rfl) (by kernel_rfl) (by kernel_rfl) (by kernel_rfl) (fun _ _ _ h => h) (Or.inr ⟨by rfl, rfl⟩) (by assumption) ?_
                    try simp only [Act.put, List.setIfInBounds_toArray, List.set_cons_zero, List.set_cons_succ]
                    refine wpAnyH_take (i := 8) (v := undef) (by simp only [List.getElem?_toArray, List.getElem?_cons_succ, List.getElem?_cons_zero]; rfl) (by kernel_rfl) (by kernel_rfl) (by kernel_rfl) (fun _ _ _ h => h) (Or.inr ⟨by rfl, rfl⟩) (by assumption) ?_
                    try simp only [Act.put, List.setIfInBounds_toArray, List.set_cons_zero, List.set_cons_succ]
                    refine wpAnyH_take (i := 9) (v := undef) (by simp only [List.getElem?_toArray, List.getElem?_cons_succ, List.getElem?_cons_zero]; rfl) (by kernel_rfl) (by kernel_rfl) (by kernel_rfl) (fun _ _ _ h => h) (Or.inr ⟨by rfl, rfl⟩) (by assumption) ?_
                    try simp only [Act.put, List.setIfInBounds_toArray, List.set_cons_zero, List.set_cons_succ]
                    refine wpAnyH_take (i := 10) (v := undef) (by simp only [List.getElem?_toArray, List.getElem?_cons_succ, List.getElem?_cons_zero]; rfl) (by kernel_rfl) (by kernel_rfl) (by kernel_rfl) (fun _ _ _ h => h) (Or.inr ⟨by rfl, rfl⟩) (by assumption) ?_
                    try simp only [Act.put, List.setIfInBounds_toArray, List.set_cons_zero, List.set_cons_succ]
                    refine wpAnyH_take (i := 11) (v := ?_) (by simp only [List.getElem?_toArray, List.getElem?_cons_succ, List.getElem?_cons_zero]; rfl) (by kernel_rfl) (by kernel_rfl) (by kernel_rfl) (fun _ _ _ h => h) (Or.inl ⟨by rfl, ?_⟩) (by assumption) ?_
                    rotate_left 1
                    · (intro w hSw; (try dsimp only at hSw); go_simp; try with_reducible rfl)
                    try simp only [Act.put, List.setIfInBounds_toArray, List.set_cons_zero, List.set_cons_succ]
                    refine wpAnyH_done (by kernel_rfl) ?_ _
                    refine NoPanic.normal ?_
                    clear hHeld
                    have KZ3 := hide (KZW.out.below B29.out)
                    have B30 := hide (BW.out.trans (B29.out.mono hSw))
                    have z0 := KZ3.out.cell 0
                    have z1 := KZ3.out.cell 1
                    have z2 := KZ3.out.cell 2
                    have z3 := KZ3.out.cell 3
                    have z4 := KZ3.out.cell 4
                    have z5 := KZ3.out.cell 5
                    have z6 := KZ3.out.cell 6
                    simp only [List.getElem?_toArray, List.getElem?_cons_succ, List.getElem?_cons_zero] at z0 z1 z2 z3 z4 z5 z6
                    have f0 := KZ3.out.frozen 0
                    have f1 := KZ3.out.frozen 1
                    have f2 := KZ3.out.frozen 2
                    have f3 := KZ3.out.frozen 3
                    have f4 := KZ3.out.frozen 4
                    have f5 := KZ3.out.frozen 5
                    have f6 := KZ3.out.frozen 6

                    go_wp2_with fail

                    have PS := part_set7 KZ3.out (.int .i64 0) (.int .i64 0) (.int .i64 0) (.int .i64 0) (.int .i64 0) (.slice none 0 0) (.slice none 0 0)
                    refine ret_decR rfl rfl rfl PS.1 rfl ⟨.inr ⟨HN.out, rfl⟩, ?_⟩
                    rw [← HS.out]
                    exact B30.out.trans (PS.2.below (by have := B30.out.size; have := HS.out; omega) (by simp))
                  obtain ⟨cv, hcv⟩ := cv_ex Tryd.prog 30 9
                  have hcb : ∀ w' : World, By w' wr.heap.size (some ⟨b0, off0, none⟩) 128 l → cv (.slice (some ⟨b0, off0, none⟩) 128 c) w' = .ok (.string (txt l)) w' := fun w' h => cv_txt hcv Tryd.underlying30 Tryd.underlying5 Tryd.underlying9 c h
                  have hckn := hide (show (checkP e cc x0 x1 x2 fsj is != 0) = false by rw [hck]; rfl)
                  by_cases henc : encB e cc (wordsB x0 x1 x2 fsj is xs) = l
                  · obtain ⟨EL, hEL⟩ : ∃ x, x = encB e cc (wordsB x0 x1 x2 fsj is xs) := ⟨_, rfl⟩
                    have heq : ((txt EL).toList == (txt l).toList) = true := by rw [hEL]; rw [henc]; exact txt_eq l
                    have HEL := hide hEL
                    clear hEL
                    have s0 := CP.out _ (Below.refl _ _).drew
                    refine wp_region_noPanic ?_
                    refine wp_region_held_drew (S := (fun w' => w'.cell? ⟨S + 1, 0, none⟩ = some (.int .i64 (e : Int)) ∧ w'.cell? ⟨S + 1, 1, none⟩ = some (.int .i64 (cc : Int)) ∧ w'.cell? ⟨S + 1, 2, none⟩ = some (.int .i64 (x0 : Int)) ∧ w'.cell? ⟨S + 1, 3, none⟩ = some (.int .i64 (x1 : Int)) ∧ w'.cell? ⟨S + 1, 4, none⟩ = some (.int .i64 (x2 : Int)) ∧ w'.cell? ⟨S + 1, 5, none⟩ = some (.slice Af n' d) ∧ w'.cell? ⟨S + 1, 6, none⟩ = some (.slice A3 q d3) ∧ By w' wr.heap.size (some ⟨b0, off0, none⟩) 128 l)) (by kernel_rfl) ?_ (fun hHeld => ?_)
                    · ((try dsimp only) <;> (first | trivial | assumption | go_keep))
                    clear s0
                    have bd := (Below.refl wr.heap.size wr).drew
                    refine wpAnyH_take (i := 0) (v := ?_) (by simp only [List.getElem?_toArray, List.getElem?_cons_zero]; rfl) (by kernel_rfl) (by kernel_rfl) (by kernel_rfl) (fun _ _ _ h => h) (Or.inl ⟨by rfl, ?_⟩) (by assumption) ?_
                    rotate_left 1
                    · (intro w hSw; (try dsimp only at hSw); go_simp; try with_reducible rfl)
                    try simp only [Act.put, List.setIfInBounds_toArray, List.set_cons_zero, List.set_cons_succ]
                    refine wpAnyH_ready (rs := [1]) (by kernel_rfl) (by simp) ?_
                    refine AllReadyH.cons (by simp only [List.getElem?_toArray, List.getElem?_cons_succ, List.getElem?_cons_zero]; rfl) (fun K hK => ?_) ?_
                    rotate_left 1
                    · exact AllReadyH.nil
                    go_simp
                    refine CK.out.mono ?_; rintro r w30 ⟨rfl, hb⟩; have B29 := hide (bd.trans (hb.mono bd.size)); clear hb
                    refine hK.out _ _ ?_ (fun hHeld2 => ?_)
                    · ((try dsimp only) <;> (exact CP.out _ B29.out))
                    clear hHeld
                    have hHeld := hHeld2
                    clear hHeld2 hK K
                    try simp only [Act.put, List.setIfInBounds_toArray, List.set_cons_zero, List.set_cons_succ]
                    refine wpAnyH_take (i := 2) (v := ?_) (by simp only [List.getElem?_toArray, List.getElem?_cons_succ, List.getElem?_cons_zero]; rfl) (by kernel_rfl) (by kernel_rfl) (by kernel_rfl) (fun _ _ _ h => h) (Or.inl ⟨by rfl, ?_⟩) (by assumption) ?_
                    rotate_left 1
                    · (intro w hSw; (try dsimp only at hSw); go_simp; try with_reducible rfl)
                    try simp only [Act.put, List.setIfInBounds_toArray, List.set_cons_zero, List.set_cons_succ]
                    try simp only [hckn.out]
                    refine wpAnyH_take (i := 3) (v := ?_) (by simp only [List.getElem?_toArray, List.getElem?_cons_succ, List.getElem?_cons_zero]; rfl) (by kernel_rfl) (by kernel_rfl) (by kernel_rfl) (fun _ _ _ h => h) (Or.inl ⟨by rfl, ?_⟩) (by assumption) ?_
                    rotate_left 1
                    · (intro w hSw; (try dsimp only at hSw); go_simp; try with_reducible rfl)
                    try simp only [Act.put, List.setIfInBounds_toArray, List.set_cons_zero, List.set_cons_succ]
                    refine wpAnyH_take (i := 4) (v := ?_) (by simp only [List.getElem?_toArray, List.getElem?_cons_succ, List.getElem?_cons_zero]; rfl) (by kernel_rfl) (by kernel_rfl) (by kernel_rfl) (fun _ _ _ h => h) (Or.inl ⟨by rfl, ?_⟩) (by assumption) ?_
                    rotate_left 1
                    · (intro w hSw; (try dsimp only at hSw); go_simp; try with_reducible rfl)
                    try simp only [Act.put, List.setIfInBounds_toArray, List.set_cons_zero, List.set_cons_succ]
                    refine wpAnyH_take (i := 5) (v := ?_) (by simp only [List.getElem?_toArray, List.getElem?_cons_succ, List.getElem?_cons_zero]; rfl) (by kernel_rfl) (by kernel_rfl) (by kernel_rfl) (fun _ _ _ h => h) (Or.inl ⟨by rfl, ?_⟩) (by assumption) ?_
                    rotate_left 1
                    · (intro w hSw; (try dsimp only at hSw); go_simp; try with_reducible rfl)
                    try simp only [Act.put, List.setIfInBounds_toArray, List.set_cons_zero, List.set_cons_succ]
                    refine wpAnyH_take (i := 8) (v := ?_) (by simp only [List.getElem?_toArray, List.getElem?_cons_succ, List.getElem?_cons_zero]; rfl) (by kernel_rfl) (by kernel_rfl) (by kernel_rfl) (fun _ _ _ h => h) (Or.inl ⟨by rfl, ?_⟩) (by assumption) ?_
                    rotate_left 1
                    · (intro w hSw; (try dsimp only at hSw); go_simp; try with_reducible rfl)
                    try simp only [Act.put, List.setIfInBounds_toArray, List.set_cons_zero, List.set_cons_succ]
                    refine wpAnyH_take (i := 9) (v := ?_) (by simp only [List.getElem?_toArray, List.getElem?_cons_succ, List.getElem?_cons_zero]; rfl) (by kernel_rfl) (by kernel_rfl) (by kernel_rfl) (fun _ _ _ h => h) (Or.inl ⟨by rfl, ?_⟩) (by assumption) ?_
                    rotate_left 1
                    · (intro w hSw; (try dsimp only at hSw); go_simp; try with_reducible rfl)
                    try simp only [Act.put, List.setIfInBounds_toArray, List.set_cons_zero, List.set_cons_succ]
                    have EC := hide (renc_any e cc x0 x1 x2 xs hxs32 Af A3 n' d q d3 w9.heap.size w9.heap.size wf.heap.size wf.heap.size fsj is w30 (ORW.out.kp (Kp.of_below (gs := []) B29.out) (by simp)).fis (RwAt.of_own (own_bel OW2.out B29.out)) hck)
                    rw [← HEL.out] at EC
                    refine wpAnyH_ready (rs := [6]) (by kernel_rfl) (by simp) ?_
                    refine AllReadyH.cons (by simp only [List.getElem?_toArray, List.getElem?_cons_succ, List.getElem?_cons_zero]; rfl) (fun K hK => ?_) ?_
                    rotate_left 1
                    · exact AllReadyH.nil
                    go_simp
                    refine EC.out.mono ?_; rintro r w31 ⟨Ae, ke, rfl, ho, hb⟩; have hce := cv_txt hcv Tryd.underlying30 Tryd.underlying5 Tryd.underlying9 ke (own_byS ho); have B31 := hide (B29.out.trans (hb.mono B29.out.size)); clear ho hb
                    refine hK.out _ _ ?_ (fun hHeld2 => ?_)
                    · ((try dsimp only) <;> (exact CP.out _ B31.out))
                    clear hHeld
                    have hHeld := hHeld2
                    clear hHeld2 hK K
                    try simp only [Act.put, List.setIfInBounds_toArray, List.set_cons_zero, List.set_cons_succ]
                    refine wpAnyH_ready (rs := [7]) (by kernel_rfl) (by simp) ?_
                    refine AllReadyH.cons (by simp only [List.getElem?_toArray, List.getElem?_cons_succ, List.getElem?_cons_zero]; rfl) (fun K hK => ?_) ?_
                    rotate_left 1
                    · exact AllReadyH.nil
                    go_simp
                    refine hK.out _ _ ?_ (fun hHeld2 => ?_)
                    · ((try dsimp only) <;> (exact CP.out _ B31.out))
                    clear hHeld
                    have hHeld := hHeld2
                    clear hHeld2 hK K
                    try simp only [Act.put, List.setIfInBounds_toArray, List.set_cons_zero, List.set_cons_succ]
                    refine wpAnyH_take (i := 10) (v := ?_) (by simp only [List.getElem?_toArray, List.getElem?_cons_succ, List.getElem?_cons_zero]; rfl) (by kernel_rfl) (by kernel_rfl) (by kernel_rfl) (fun _ _ _ h => h) (Or.inl ⟨by rfl, ?_⟩) (by assumption) ?_
                    rotate_left 1
                    · (intro w hSw; (try dsimp only at hSw); go_simp; try with_reducible rfl)
                    try simp only [Act.put, List.setIfInBounds_toArray, List.set_cons_zero, List.set_cons_succ]
                    try simp only [heq, Bool.not_true, Bool.not_false]
                    refine wpAnyH_take (i := 11) (v := ?_) (by simp only [List.getElem?_toArray, List.getElem?_cons_succ, List.getElem?_cons_zero]; rfl) (by kernel_rfl) (by kernel_rfl) (by kernel_rfl) (fun _ _ _ h => h) (Or.inl ⟨by rfl, ?_⟩) (by assumption) ?_
                    rotate_left 1
                    · (intro w hSw; (try dsimp only at hSw); go_simp; try with_reducible rfl)
                    try simp only [Act.put, List.setIfInBounds_toArray, List.set_cons_zero, List.set_cons_succ]
                    refine wpAnyH_done (by kernel_rfl) ?_ _
                    refine NoPanic.normal ?_
                    clear hHeld hce heq
                    have KZ3 := hide (KZW.out.below B31.out)
                    have B30 := hide (BW.out.trans (B31.out.mono hSw))
                    have z0 := KZ3.out.cell 0
                    have z1 := KZ3.out.cell 1
                    have z2 := KZ3.out.cell 2
                    have z3 := KZ3.out.cell 3
                    have z4 := KZ3.out.cell 4
                    have z5 := KZ3.out.cell 5
                    have z6 := KZ3.out.cell 6
                    simp only [List.getElem?_toArray, List.getElem?_cons_succ, List.getElem?_cons_zero] at z0 z1 z2 z3 z4 z5 z6
                    have f0 := KZ3.out.frozen 0
                    have f1 := KZ3.out.frozen 1
                    have f2 := KZ3.out.frozen 2
                    have f3 := KZ3.out.frozen 3
                    have f4 := KZ3.out.frozen 4
                    have f5 := KZ3.out.frozen 5
                    have f6 := KZ3.out.frozen 6
                    have X31 := hide (XF.out.below B31.out)
                    have y0 := X31.out.cell 0
                    have y1 := X31.out.cell 1
                    have y2 := X31.out.cell 2
                    have y3 := X31.out.cell 3
                    have y4 := X31.out.cell 4
                    have y5 := X31.out.cell 5
                    have y6 := X31.out.cell 6
                    simp only [List.getElem?_toArray, List.getElem?_cons_succ, List.getElem?_cons_zero] at y0 y1 y2 y3 y4 y5 y6
                    have OR31 := hide (ORW.out.kp (Kp.of_below (gs := []) B31.out) (by simp))
                    have OW31 := hide (own_bel OW2.out B31.out)
                    go_wp2_with fail
                    have PS := part_set7 KZ3.out (.int .i64 (e : Int)) (.int .i64 (cc : Int)) (.int .i64 (x0 : Int)) (.int .i64 (x1 : Int)) (.int .i64 (x2 : Int)) (.slice Af n' d) (.slice A3 q d3)
                    refine ret_decR rfl rfl rfl PS.1 rfl ⟨.inl ⟨⟨e, cc, x0, x1, x2, fsj, is⟩, xs, ⟨hck, hxs32, henc.symm⟩, Af, d, A3, d3, cs, ?_, ?_, ?_⟩, ?_⟩
                    · dsimp only
                      rw [HIS.out.1, HIS.out.2]
                      rfl
                    · dsimp only
                      rw [HIS.out.2]
                      exact (OR31.out.kp PS.2 (by intro g hg; have := SZ.out; simp only [List.mem_singleton] at hg; omega)).bq HSS.out.2
                    · dsimp only
                      rw [HIS.out.1]
                      exact own_bq (own_kq OW31.out PS.2 (fun g hg => by have h1 := (OW31.out.lt g hg).1; have h2 := SZ2.out; simp only [List.mem_singleton]; omega)) HSS.out.1
                    · rw [← HS.out]
                      exact B30.out.trans (PS.2.below (by have := B30.out.size; have := HS.out; omega) (by simp))
                  · obtain ⟨EL, hEL⟩ : ∃ x, x = encB e cc (wordsB x0 x1 x2 fsj is xs) := ⟨_, rfl⟩
                    have heq : ((txt EL).toList == (txt l).toList) = false := by rw [hEL]; exact txt_ne henc
                    have HEL := hide hEL
                    clear hEL
                    have s0 := CP.out _ (Below.refl _ _).drew
                    refine wp_region_noPanic ?_
                    refine wp_region_held_drew (S := (fun w' => w'.cell? ⟨S + 1, 0, none⟩ = some (.int .i64 (e : Int)) ∧ w'.cell? ⟨S + 1, 1, none⟩ = some (.int .i64 (cc : Int)) ∧ w'.cell? ⟨S + 1, 2, none⟩ = some (.int .i64 (x0 : Int)) ∧ w'.cell? ⟨S + 1, 3, none⟩ = some (.int .i64 (x1 : Int)) ∧ w'.cell? ⟨S + 1, 4, none⟩ = some (.int .i64 (x2 : Int)) ∧ w'.cell? ⟨S + 1, 5, none⟩ = some (.slice Af n' d) ∧ w'.cell? ⟨S + 1, 6, none⟩ = some (.slice A3 q d3) ∧ By w' wr.heap.size (some ⟨b0, off0, none⟩) 128 l)) (by kernel_rfl) ?_ (fun hHeld => ?_)
                    · ((try dsimp only) <;> (first | trivial | assumption | go_keep))
                    clear s0
                    have bd := (Below.refl wr.heap.size wr).drew
                    refine wpAnyH_take (i := 0) (v := ?_) (by simp only [List.getElem?_toArray, List.getElem?_cons_zero]; rfl) (by kernel_rfl) (by kernel_rfl) (by kernel_rfl) (fun _ _ _ h => h) (Or.inl ⟨by rfl, ?_⟩) (by assumption) ?_
                    rotate_left 1
                    · (intro w hSw; (try dsimp only at hSw); go_simp; try with_reducible rfl)
                    try simp only [Act.put, List.setIfInBounds_toArray, List.set_cons_zero, List.set_cons_succ]
                    refine wpAnyH_ready (rs := [1]) (by kernel_rfl) (by simp) ?_
                    refine AllReadyH.cons (by simp only [List.getElem?_toArray, List.getElem?_cons_succ, List.getElem?_cons_zero]; rfl) (fun K hK => ?_) ?_
                    rotate_left 1
                    · exact AllReadyH.nil
                    go_simp
                    refine CK.out.mono ?_; rintro r w30 ⟨rfl, hb⟩; have B29 := hide (bd.trans (hb.mono bd.size)); clear hb
                    refine hK.out _ _ ?_ (fun hHeld2 => ?_)
                    · ((try dsimp only) <;> (exact CP.out _ B29.out))
                    clear hHeld
                    have hHeld := hHeld2
                    clear hHeld2 hK K
                    try simp only [Act.put, List.setIfInBounds_toArray, List.set_cons_zero, List.set_cons_succ]
                    refine wpAnyH_take (i := 2) (v := ?_) (by simp only [List.getElem?_toArray, List.getElem?_cons_succ, List.getElem?_cons_zero]; rfl) (by kernel_rfl) (by kernel_rfl) (by kernel_rfl) (fun _ _ _ h => h) (Or.inl ⟨by rfl, ?_⟩) (by assumption) ?_
                    rotate_left 1
                    · (intro w hSw; (try dsimp only at hSw); go_simp; try with_reducible rfl)
                    try simp only [Act.put, List.setIfInBounds_toArray, List.set_cons_zero, List.set_cons_succ]
                    try simp only [hckn.out]
                    refine wpAnyH_take (i := 3) (v := ?_) (by simp only [List.getElem?_toArray, List.getElem?_cons_succ, List.getElem?_cons_zero]; rfl) (by kernel_rfl) (by kernel_rfl) (by kernel_rfl) (fun _ _ _ h => h) (Or.inl ⟨by rfl, ?_⟩) (by assumption) ?_
                    rotate_left 1
                    · (intro w hSw; (try dsimp only at hSw); go_simp; try with_reducible rfl)
                    try simp only [Act.put, List.setIfInBounds_toArray, List.set_cons_zero, List.set_cons_succ]
                    refine wpAnyH_take (i := 4) (v := ?_) (by simp only [List.getElem?_toArray, List.getElem?_cons_succ, List.getElem?_cons_zero]; rfl) (by kernel_rfl) (by kernel_rfl) (by kernel_rfl) (fun _ _ _ h => h) (Or.inl ⟨by rfl, ?_⟩) (by assumption) ?_
                    rotate_left 1
                    · (intro w hSw; (try dsimp only at hSw); go_simp; try with_reducible rfl)
                    try simp only [Act.put, List.setIfInBounds_toArray, List.set_cons_zero, List.set_cons_succ]
                    refine wpAnyH_take (i := 5) (v := ?_) (by simp only [List.getElem?_toArray, List.getElem?_cons_succ, List.getElem?_cons_zero]; rfl) (by kernel_rfl) (by kernel_rfl) (by kernel_rfl) (fun _ _ _ h => h) (Or.inl ⟨by rfl, ?_⟩) (by assumption) ?_
                    rotate_left 1
                    · (intro w hSw; (try dsimp only at hSw); go_simp; try with_reducible rfl)
                    try simp only [Act.put, List.setIfInBounds_toArray, List.set_cons_zero, List.set_cons_succ]
                    refine wpAnyH_take (i := 8) (v := ?_) (by simp only [List.getElem?_toArray, List.getElem?_cons_succ, List.getElem?_cons_zero]; rfl) (by kernel_rfl) (by kernel_rfl) (by kernel_rfl) (fun _ _ _ h => h) (Or.inl ⟨by rfl, ?_⟩) (by assumption) ?_
                    rotate_left 1
                    · (intro w hSw; (try dsimp only at hSw); go_simp; try with_reducible rfl)
                    try simp only [Act.put, List.setIfInBounds_toArray, List.set_cons_zero, List.set_cons_succ]
                    refine wpAnyH_take (i := 9) (v := ?_) (by simp only [List.getElem?_toArray, List.getElem?_cons_succ, List.getElem?_cons_zero]; rfl) (by kernel_rfl) (by kernel_rfl) (by kernel_rfl) (fun _ _ _ h => h) (Or.inl ⟨by rfl, ?_⟩) (by assumption) ?_
                    rotate_left 1
                    · (intro w hSw; (try dsimp only at hSw); go_simp; try with_reducible rfl)
                    try simp only [Act.put, List.setIfInBounds_toArray, List.set_cons_zero, List.set_cons_succ]
                    have EC := hide (renc_any e cc x0 x1 x2 xs hxs32 Af A3 n' d q d3 w9.heap.size w9.heap.size wf.heap.size wf.heap.size fsj is w30 (ORW.out.kp (Kp.of_below (gs := []) B29.out) (by simp)).fis (RwAt.of_own (own_bel OW2.out B29.out)) hck)
                    rw [← HEL.out] at EC
                    refine wpAnyH_ready (rs := [6]) (by kernel_rfl) (by simp) ?_
                    refine AllReadyH.cons (by simp only [List.getElem?_toArray, List.getElem?_cons_succ, List.getElem?_cons_zero]; rfl) (fun K hK => ?_) ?_
                    rotate_left 1
                    · exact AllReadyH.nil
                    go_simp
                    refine EC.out.mono ?_; rintro r w31 ⟨Ae, ke, rfl, ho, hb⟩; have hce := cv_txt hcv Tryd.underlying30 Tryd.underlying5 Tryd.underlying9 ke (own_byS ho); have B31 := hide (B29.out.trans (hb.mono B29.out.size)); clear ho hb
                    refine hK.out _ _ ?_ (fun hHeld2 => ?_)
                    · ((try dsimp only) <;> (exact CP.out _ B31.out))
                    clear hHeld
                    have hHeld := hHeld2
                    clear hHeld2 hK K
                    try simp only [Act.put, List.setIfInBounds_toArray, List.set_cons_zero, List.set_cons_succ]
                    refine wpAnyH_ready (rs := [7]) (by kernel_rfl) (by simp) ?_
                    refine AllReadyH.cons (by simp only [List.getElem?_toArray, List.getElem?_cons_succ, List.getElem?_cons_zero]; rfl) (fun K hK => ?_) ?_
                    rotate_left 1
                    · exact AllReadyH.nil
                    go_simp
                    refine hK.out _ _ ?_ (fun hHeld2 => ?_)
                    · ((try dsimp only) <;> (exact CP.out _ B31.out))
                    clear hHeld
                    have hHeld := hHeld2
                    clear hHeld2 hK K
                    try simp only [Act.put, List.setIfInBounds_toArray, List.set_cons_zero, List.set_cons_succ]
                    refine wpAnyH_take (i := 10) (v := ?_) (by simp only [List.getElem?_toArray, List.getElem?_cons_succ, List.getElem?_cons_zero]; rfl) (by kernel_rfl) (by kernel_rfl) (by kernel_rfl) (fun _ _ _ h => h) (Or.inl ⟨by rfl, ?_⟩) (by assumption) ?_
                    rotate_left 1
                    · (intro w hSw; (try dsimp only at hSw); go_simp; try with_reducible rfl)
                    try simp only [Act.put, List.setIfInBounds_toArray, List.set_cons_zero, List.set_cons_succ]
                    try simp only [heq, Bool.not_true, Bool.not_false]
                    refine wpAnyH_take (i := 11) (v := ?_) (by simp only [List.getElem?_toArray, List.getElem?_cons_succ, List.getElem?_cons_zero]; rfl) (by kernel_rfl) (by kernel_rfl) (by kernel_rfl) (fun _ _ _ h => h) (Or.inl ⟨by rfl, ?_⟩) (by assumption) ?_
                    rotate_left 1
                    · (intro w hSw; (try dsimp only at hSw); go_simp; try with_reducible rfl)
                    try simp only [Act.put, List.setIfInBounds_toArray, List.set_cons_zero, List.set_cons_succ]
                    refine wpAnyH_done (by kernel_rfl) ?_ _
                    refine NoPanic.normal ?_
                    clear hHeld hce heq
                    have KZ3 := hide (KZW.out.below B31.out)
                    have B30 := hide (BW.out.trans (B31.out.mono hSw))
                    have z0 := KZ3.out.cell 0
                    have z1 := KZ3.out.cell 1
                    have z2 := KZ3.out.cell 2
                    have z3 := KZ3.out.cell 3
                    have z4 := KZ3.out.cell 4
                    have z5 := KZ3.out.cell 5
                    have z6 := KZ3.out.cell 6
                    simp only [List.getElem?_toArray, List.getElem?_cons_succ, List.getElem?_cons_zero] at z0 z1 z2 z3 z4 z5 z6
                    have f0 := KZ3.out.frozen 0
                    have f1 := KZ3.out.frozen 1
                    have f2 := KZ3.out.frozen 2
                    have f3 := KZ3.out.frozen 3
                    have f4 := KZ3.out.frozen 4
                    have f5 := KZ3.out.frozen 5
                    have f6 := KZ3.out.frozen 6
                    have HN := hide (show ∀ v s, ¬ IsEnc l v s from fun v s hv => henc (by
                      have h1 := (parse_okR l).2 ⟨v, s, hv⟩
                      rw [HV.out] at h1
                      exact h1.2))
                    go_wp2_with fail

                    have PS := part_set7 KZ3.out (.int .i64 0) (.int .i64 0) (.int .i64 0) (.int .i64 0) (.int .i64 0) (.slice none 0 0) (.slice none 0 0)
                    refine ret_decR rfl rfl rfl PS.1 rfl ⟨.inr ⟨HN.out, rfl⟩, ?_⟩
                    rw [← HS.out]
                    exact B30.out.trans (PS.2.below (by have := B30.out.size; have := HS.out; omega) (by simp))
                · have hqs : ¬ (q : Int) < (xi : Int) := by omega
                  clear hend
                  go_wp2_with fail
                  refine (at_anyZ Ar N kr (5) W _ wr BY.out (by omega) hN1 _ (by omega)).mono ?_
                  rintro r w' ⟨rfl, hw⟩
                  rw [hw]
                  clear hw w'
                  rw [← Hxi.out]
                  have hcls : n' ≤ 100000 ∧ q ≤ 100000 ∧ lsN fsj ≤ 100000 := by omega
                  have CK := hide (rcheck_any e cc x0 x1 x2 Af A3 n' d q d3 w9.heap.size w9.heap.size wf.heap.size wf.heap.size fsj is wr.drew (ORW.out.kp (Kp.of_below (gs := []) (Below.refl _ _).drew) (by simp)).fis (RwAt.of_own (own_bel OW2.out (Below.refl _ _).drew)) hcls.1 hcls.2.1 hcls.2.2 HBD.out)
                  have CP := hide (fun (w' : World) (hb : Below wr.heap.size wr w') => show w'.cell? ⟨S + 1, 0, none⟩ = some (.int .i64 (e : Int)) ∧ w'.cell? ⟨S + 1, 1, none⟩ = some (.int .i64 (cc : Int)) ∧ w'.cell? ⟨S + 1, 2, none⟩ = some (.int .i64 (x0 : Int)) ∧ w'.cell? ⟨S + 1, 3, none⟩ = some (.int .i64 (x1 : Int)) ∧ w'.cell? ⟨S + 1, 4, none⟩ = some (.int .i64 (x2 : Int)) ∧ w'.cell? ⟨S + 1, 5, none⟩ = some (.slice Af n' d) ∧ w'.cell? ⟨S + 1, 6, none⟩ = some (.slice A3 q d3) ∧ By w' wr.heap.size (some ⟨b0, off0, none⟩) 128 l from ⟨(XF.out.below hb).cell 0, (XF.out.below hb).cell 1, (XF.out.below hb).cell 2, (XF.out.below hb).cell 3, (XF.out.below hb).cell 4, (XF.out.below hb).cell 5, (XF.out.below hb).cell 6, Sl.below BYL.out hb⟩)
                  clear hcls
                  go_wp2_with fail
                  by_cases hck : checkP e cc x0 x1 x2 fsj is = 0
                  rotate_left
                  · have HN := hide (show ∀ v s, ¬ IsEnc l v s from fun v s hv => hck (by
                      have h1 := (parse_okR l).2 ⟨v, s, hv⟩
                      rw [HV.out] at h1
                      exact h1.1))
                    have hckn := hide (show (checkP e cc x0 x1 x2 fsj is != 0) = true from bne_iff_ne.2 hck)
                    generalize checkP (e : Int) cc x0 x1 x2 fsj is = ck at *
                    have s0 := CP.out _ (Below.refl _ _).drew
                    refine wp_region_noPanic ?_
                    refine wp_region_held_drew (S := (fun w' => w'.cell? ⟨S + 1, 0, none⟩ = some (.int .i64 (e : Int)) ∧ w'.cell? ⟨S + 1, 1, none⟩ = some (.int .i64 (cc : Int)) ∧ w'.cell? ⟨S + 1, 2, none⟩ = some (.int .i64 (x0 : Int)) ∧ w'.cell? ⟨S + 1, 3, none⟩ = some (.int .i64 (x1 : Int)) ∧ w'.cell? ⟨S + 1, 4, none⟩ = some (.int .i64 (x2 : Int)) ∧ w'.cell? ⟨S + 1, 5, none⟩ = some (.slice Af n' d) ∧ w'.cell? ⟨S + 1, 6, none⟩ = some (.slice A3 q d3) ∧ By w' wr.heap.size (some ⟨b0, off0, none⟩) 128 l)) (by kernel_rfl) ?_ (fun hHeld => ?_)
                    · ((try dsimp only) <;> (first | trivial | assumption | go_keep))
                    clear s0
                    have bd := (Below.refl wr.heap.size wr).drew
                    refine wpAnyH_take (i := 0) (v := ?_) (by simp only [List.getElem?_toArray, List.getElem?_cons_zero]; rfl) (by kernel_rfl) (by kernel_rfl) (by kernel_rfl) (fun _ _ _ h => h) (Or.inl ⟨by rfl, ?_⟩) (by assumption) ?_
                    rotate_left 1
                    · (intro w hSw; (try dsimp only at hSw); go_simp; try with_reducible rfl)
                    try simp only [Act.put, List.setIfInBounds_toArray, List.set_cons_zero, List.set_cons_succ]
                    refine wpAnyH_ready (rs := [1]) (by kernel_rfl) (by simp) ?_
                    refine AllReadyH.cons (by simp only [List.getElem?_toArray, List.getElem?_cons_succ, List.getElem?_cons_zero]; rfl) (fun K hK => ?_) ?_
                    rotate_left 1
                    · exact AllReadyH.nil
                    go_simp
                    refine CK.out.mono ?_; rintro r w30 ⟨rfl, hb⟩; have B29 := hide (bd.trans (hb.mono bd.size)); clear hb
                    refine hK.out _ _ ?_ (fun hHeld2 => ?_)
                    · ((try dsimp only) <;> (exact CP.out _ B29.out))
                    clear hHeld
                    have hHeld := hHeld2
                    clear hHeld2 hK K
                    try simp only [Act.put, List.setIfInBounds_toArray, List.set_cons_zero, List.set_cons_succ]
                    refine wpAnyH_take (i := 2) (v := ?_) (by simp only [List.getElem?_toArray, List.getElem?_cons_succ, List.getElem?_cons_zero]; rfl) (by kernel_rfl) (by kernel_rfl) (by kernel_rfl) (fun _ _ _ h => h) (Or.inl ⟨by rfl, ?_⟩) (by assumption) ?_
                    rotate_left 1
                    · (intro w hSw; (try dsimp only at hSw); go_simp; try with_reducible rfl)
                    try simp only [Act.put, List.setIfInBounds_toArray, List.set_cons_zero, List.set_cons_succ]
                    try simp only [hckn.out]
                    refine wpAnyH_take (i := 3) (v := ?_) (by simp only [List.getElem?_toArray, List.getElem?_cons_succ, List.getElem?_cons_zero]; rfl) (by kernel_rfl) (by kernel_rfl) (by kernel_rfl) (fun _ _ _ h => h) (Or.inl ⟨by rfl, ?_⟩) (by assumption) ?_
                    rotate_left 1
                    · (intro w hSw; (try dsimp only at hSw); go_simp; try with_reducible rfl)
                    try simp only [Act.put, List.setIfInBounds_toArray, List.set_cons_zero, List.set_cons_succ]
                    refine wpAnyH_take (i := 4) (v := undef) (by simp only [List.getElem?_toArray, List.getElem?_cons_succ, List.getElem?_cons_zero]; rfl) (by kernel_rfl) (by kernel_rfl) (by kernel_rfl) (fun _ _ _ h => h) (Or.inr ⟨by rfl, rfl⟩) (by assumption) ?_
                    try simp only [Act.put, List.setIfInBounds_toArray, List.set_cons_zero, List.set_cons_succ]
                    refine wpAnyH_take (i := 5) (v := undef) (by simp only [List.getElem?_toArray, List.getElem?_cons_succ, List.getElem?_cons_zero]; rfl) (by kernel_rfl) (by kernel_rfl) (by kernel_rfl) (fun _ _ _ h => h) (Or.inr ⟨by rfl, rfl⟩) (by assumption) ?_
                    try simp only [Act.put, List.setIfInBounds_toArray, List.set_cons_zero, List.set_cons_succ]
                    refine wpAnyH_take (i := 6) (v := undef) (by simp only [List.getElem?_toArray, List.getElem?_cons_succ, List.getElem?_cons_zero]; rfl) (by kernel_rfl) (by kernel_rfl) (by kernel_rfl) (fun _ _ _ h => h) (Or.inr ⟨by rfl, rfl⟩) (by assumption) ?_
                    try simp only [Act.put, List.setIfInBounds_toArray, List.set_cons_zero, List.set_cons_succ]
                    refine wpAnyH_take (i := 7) (v := undef) (by simp only [List.getElem?_toArray, List.getElem?_cons_succ, List.getElem?_cons_zero]; rfl) (by kernel_rfl) (by kernel_rfl) (by kernel_rfl) (fun _ _ _ h => h) (Or.inr ⟨by rfl, rfl⟩) (by assumption) ?_
                    try simp only [Act.put, List.setIfInBounds_toArray, List.set_cons_zero, List.set_cons_succ]
                    refine wpAnyH_take (i := 8) (v := undef) (by simp only [List.getElem?_toArray, List.getElem?_cons_succ, List.getElem?_cons_zero]; rfl) (by kernel_rfl) (by kernel_rfl) (by kernel_rfl) (fun _ _ _ h => h) (Or.inr ⟨by rfl, rfl⟩) (by assumption) ?_
                    try simp only [Act.put, List.setIfInBounds_toArray, List.set_cons_zero, List.set_cons_succ]
                    refine wpAnyH_take (i := 9) (v := undef) (by simp only [List.getElem?_toArray, List.getElem?_cons_succ, List.getElem?_cons_zero]; rfl) (by kernel_rfl) (by kernel_rfl) (by kernel_rfl) (fun _ _ _ h => h) (Or.inr ⟨by rfl, rfl⟩) (by assumption) ?_
                    try simp only [Act.put, List.setIfInBounds_toArray, List.set_cons_zero, List.set_cons_succ]
                    refine wpAnyH_take (i := 10) (v := undef) (by simp only [List.getElem?_toArray, List.getElem?_cons_succ, List.getElem?_cons_zero]; rfl) (by kernel_rfl) (by kernel_rfl) (by kernel_rfl) (fun _ _ _ h => h) (Or.inr ⟨by rfl, rfl⟩) (by assumption) ?_
                    try simp only [Act.put, List.setIfInBounds_toArray, List.set_cons_zero, List.set_cons_succ]
                    refine wpAnyH_take (i := 11) (v := ?_) (by simp only [List.getElem?_toArray, List.getElem?_cons_succ, List.getElem?_cons_zero]; rfl) (by kernel_rfl) (by kernel_rfl) (by kernel_rfl) (fun _ _ _ h => h) (Or.inl ⟨by rfl, ?_⟩) (by assumption) ?_
                    rotate_left 1
                    · (intro w hSw; (try dsimp only at hSw); go_simp; try with_reducible rfl)
                    try simp only [Act.put, List.setIfInBounds_toArray, List.set_cons_zero, List.set_cons_succ]
                    refine wpAnyH_done (by kernel_rfl) ?_ _
                    refine NoPanic.normal ?_
                    clear hHeld
                    have KZ3 := hide (KZW.out.below B29.out)
                    have B30 := hide (BW.out.trans (B29.out.mono hSw))
                    have z0 := KZ3.out.cell 0
                    have z1 := KZ3.out.cell 1
                    have z2 := KZ3.out.cell 2
                    have z3 := KZ3.out.cell 3
                    have z4 := KZ3.out.cell 4
                    have z5 := KZ3.out.cell 5
                    have z6 := KZ3.out.cell 6
                    simp only [List.getElem?_toArray, List.getElem?_cons_succ, List.getElem?_cons_zero] at z0 z1 z2 z3 z4 z5 z6
                    have f0 := KZ3.out.frozen 0
                    have f1 := KZ3.out.frozen 1
                    have f2 := KZ3.out.frozen 2
                    have f3 := KZ3.out.frozen 3
                    have f4 := KZ3.out.frozen 4
                    have f5 := KZ3.out.frozen 5
                    have f6 := KZ3.out.frozen 6

                    go_wp2_with fail

                    have PS := part_set7 KZ3.out (.int .i64 0) (.int .i64 0) (.int .i64 0) (.int .i64 0) (.int .i64 0) (.slice none 0 0) (.slice none 0 0)
                    refine ret_decR rfl rfl rfl PS.1 rfl ⟨.inr ⟨HN.out, rfl⟩, ?_⟩
                    rw [← HS.out]
                    exact B30.out.trans (PS.2.below (by have := B30.out.size; have := HS.out; omega) (by simp))
                  obtain ⟨cv, hcv⟩ := cv_ex Tryd.prog 30 9
                  have hcb : ∀ w' : World, By w' wr.heap.size (some ⟨b0, off0, none⟩) 128 l → cv (.slice (some ⟨b0, off0, none⟩) 128 c) w' = .ok (.string (txt l)) w' := fun w' h => cv_txt hcv Tryd.underlying30 Tryd.underlying5 Tryd.underlying9 c h
                  have hckn := hide (show (checkP e cc x0 x1 x2 fsj is != 0) = false by rw [hck]; rfl)
                  by_cases henc : encB e cc (wordsB x0 x1 x2 fsj is xs) = l
                  · obtain ⟨EL, hEL⟩ : ∃ x, x = encB e cc (wordsB x0 x1 x2 fsj is xs) := ⟨_, rfl⟩
                    have heq : ((txt EL).toList == (txt l).toList) = true := by rw [hEL]; rw [henc]; exact txt_eq l
                    have HEL := hide hEL
                    clear hEL
                    have s0 := CP.out _ (Below.refl _ _).drew
                    refine wp_region_noPanic ?_
                    refine wp_region_held_drew (S := (fun w' => w'.cell? ⟨S + 1, 0, none⟩ = some (.int .i64 (e : Int)) ∧ w'.cell? ⟨S + 1, 1, none⟩ = some (.int .i64 (cc : Int)) ∧ w'.cell? ⟨S + 1, 2, none⟩ = some (.int .i64 (x0 : Int)) ∧ w'.cell? ⟨S + 1, 3, none⟩ = some (.int .i64 (x1 : Int)) ∧ w'.cell? ⟨S + 1, 4, none⟩ = some (.int .i64 (x2 : Int)) ∧ w'.cell? ⟨S + 1, 5, none⟩ = some (.slice Af n' d) ∧ w'.cell? ⟨S + 1, 6, none⟩ = some (.slice A3 q d3) ∧ By w' wr.heap.size (some ⟨b0, off0, none⟩) 128 l)) (by kernel_rfl) ?_ (fun hHeld => ?_)
                    · ((try dsimp only) <;> (first | trivial | assumption | go_keep))
                    clear s0
                    have bd := (Below.refl wr.heap.size wr).drew
                    refine wpAnyH_take (i := 0) (v := ?_) (by simp only [List.getElem?_toArray, List.getElem?_cons_zero]; rfl) (by kernel_rfl) (by kernel_rfl) (by kernel_rfl) (fun _ _ _ h => h) (Or.inl ⟨by rfl, ?_⟩) (by assumption) ?_
                    rotate_left 1
                    · (intro w hSw; (try dsimp only at hSw); go_simp; try with_reducible rfl)
                    try simp only [Act.put, List.setIfInBounds_toArray, List.set_cons_zero, List.set_cons_succ]
                    refine wpAnyH_ready (rs := [1]) (by kernel_rfl) (by simp) ?_
                    refine AllReadyH.cons (by simp only [List.getElem?_toArray, List.getElem?_cons_succ, List.getElem?_cons_zero]; rfl) (fun K hK => ?_) ?_
                    rotate_left 1
                    · exact AllReadyH.nil
                    go_simp
                    refine CK.out.mono ?_; rintro r w30 ⟨rfl, hb⟩; have B29 := hide (bd.trans (hb.mono bd.size)); clear hb
                    refine hK.out _ _ ?_ (fun hHeld2 => ?_)
                    · ((try dsimp only) <;> (exact CP.out _ B29.out))
                    clear hHeld
                    have hHeld := hHeld2
                    clear hHeld2 hK K
                    try simp only [Act.put, List.setIfInBounds_toArray, List.set_cons_zero, List.set_cons_succ]
                    refine wpAnyH_take (i := 2) (v := ?_) (by simp only [List.getElem?_toArray, List.getElem?_cons_succ, List.getElem?_cons_zero]; rfl) (by kernel_rfl) (by kernel_rfl) (by kernel_rfl) (fun _ _ _ h => h) (Or.inl ⟨by rfl, ?_⟩) (by assumption) ?_
                    rotate_left 1
                    · (intro w hSw; (try dsimp only at hSw); go_simp; try with_reducible rfl)
                    try simp only [Act.put, List.setIfInBounds_toArray, List.set_cons_zero, List.set_cons_succ]
                    try simp only [hckn.out]
                    refine wpAnyH_take (i := 3) (v := ?_) (by simp only [List.getElem?_toArray, List.getElem?_cons_succ, List.getElem?_cons_zero]; rfl) (by kernel_rfl) (by kernel_rfl) (by kernel_rfl) (fun _ _ _ h => h) (Or.inl ⟨by rfl, ?_⟩) (by assumption) ?_
                    rotate_left 1
                    · (intro w hSw; (try dsimp only at hSw); go_simp; try with_reducible rfl)
                    try simp only [Act.put, List.setIfInBounds_toArray, List.set_cons_zero, List.set_cons_succ]
                    refine wpAnyH_take (i := 4) (v := ?_) (by simp only [List.getElem?_toArray, List.getElem?_cons_succ, List.getElem?_cons_zero]; rfl) (by kernel_rfl) (by kernel_rfl) (by kernel_rfl) (fun _ _ _ h => h) (Or.inl ⟨by rfl, ?_⟩) (by assumption) ?_
                    rotate_left 1
                    · (intro w hSw; (try dsimp only at hSw); go_simp; try with_reducible rfl)
                    try simp only [Act.put, List.setIfInBounds_toArray, List.set_cons_zero, List.set_cons_succ]
                    refine wpAnyH_take (i := 5) (v := ?_) (by simp only [List.getElem?_toArray, List.getElem?_cons_succ, List.getElem?_cons_zero]; rfl) (by kernel_rfl) (by kernel_rfl) (by kernel_rfl) (fun _ _ _ h => h) (Or.inl ⟨by rfl, ?_⟩) (by assumption) ?_
                    rotate_left 1
                    · (intro w hSw; (try dsimp only at hSw); go_simp; try with_reducible rfl)
                    try simp only [Act.put, List.setIfInBounds_toArray, List.set_cons_zero, List.set_cons_succ]
                    refine wpAnyH_take (i := 8) (v := ?_) (by simp only [List.getElem?_toArray, List.getElem?_cons_succ, List.getElem?_cons_zero]; rfl) (by kernel_rfl) (by kernel_rfl) (by kernel_rfl) (fun _ _ _ h => h) (Or.inl ⟨by rfl, ?_⟩) (by assumption) ?_
                    rotate_left 1
                    · (intro w hSw; (try dsimp only at hSw); go_simp; try with_reducible rfl)
                    try simp only [Act.put, List.setIfInBounds_toArray, List.set_cons_zero, List.set_cons_succ]
                    refine wpAnyH_take (i := 9) (v := ?_) (by simp only [List.getElem?_toArray, List.getElem?_cons_succ, List.getElem?_cons_zero]; rfl) (by kernel_rfl) (by kernel_rfl) (by kernel_rfl) (fun _ _ _ h => h) (Or.inl ⟨by rfl, ?_⟩) (by assumption) ?_
                    rotate_left 1
                    · (intro w hSw; (try dsimp only at hSw); go_simp; try with_reducible rfl)
                    try simp only [Act.put, List.setIfInBounds_toArray, List.set_cons_zero, List.set_cons_succ]
                    have EC := hide (renc_any e cc x0 x1 x2 xs hxs32 Af A3 n' d q d3 w9.heap.size w9.heap.size wf.heap.size wf.heap.size fsj is w30 (ORW.out.kp (Kp.of_below (gs := []) B29.out) (by simp)).fis (RwAt.of_own (own_bel OW2.out B29.out)) hck)
                    rw [← HEL.out] at EC
                    refine wpAnyH_ready (rs := [6]) (by kernel_rfl) (by simp) ?_
                    refine AllReadyH.cons (by simp only [List.getElem?_toArray, List.getElem?_cons_succ, List.getElem?_cons_zero]; rfl) (fun K hK => ?_) ?_
                    rotate_left 1
                    · exact AllReadyH.nil
                    go_simp
                    refine EC.out.mono ?_; rintro r w31 ⟨Ae, ke, rfl, ho, hb⟩; have hce := cv_txt hcv Tryd.underlying30 Tryd.underlying5 Tryd.underlying9 ke (own_byS ho); have B31 := hide (B29.out.trans (hb.mono B29.out.size)); clear ho hb
                    refine hK.out _ _ ?_ (fun hHeld2 => ?_)
                    · ((try dsimp only) <;> (exact CP.out _ B31.out))
                    clear hHeld
                    have hHeld := hHeld2
                    clear hHeld2 hK K
                    try simp only [Act.put, List.setIfInBounds_toArray, List.set_cons_zero, List.set_cons_succ]
                    refine wpAnyH_ready (rs := [7]) (by kernel_rfl) (by simp) ?_
                    refine AllReadyH.cons (by simp only [List.getElem?_toArray, List.getElem?_cons_succ, List.getElem?_cons_zero]; rfl) (fun K hK => ?_) ?_
                    rotate_left 1
                    · exact AllReadyH.nil
                    go_simp
                    refine hK.out _ _ ?_ (fun hHeld2 => ?_)
                    · ((try dsimp only) <;> (exact CP.out _ B31.out))
                    clear hHeld
                    have hHeld := hHeld2
                    clear hHeld2 hK K
                    try simp only [Act.put, List.setIfInBounds_toArray, List.set_cons_zero, List.set_cons_succ]
                    refine wpAnyH_take (i := 10) (v := ?_) (by simp only [List.getElem?_toArray, List.getElem?_cons_succ, List.getElem?_cons_zero]; rfl) (by kernel_rfl) (by kernel_rfl) (by kernel_rfl) (fun _ _ _ h => h) (Or.inl ⟨by rfl, ?_⟩) (by assumption) ?_
                    rotate_left 1
                    · (intro w hSw; (try dsimp only at hSw); go_simp; try with_reducible rfl)
                    try simp only [Act.put, List.setIfInBounds_toArray, List.set_cons_zero, List.set_cons_succ]
                    try simp only [heq, Bool.not_true, Bool.not_false]
                    refine wpAnyH_take (i := 11) (v := ?_) (by simp only [List.getElem?_toArray, List.getElem?_cons_succ, List.getElem?_cons_zero]; rfl) (by kernel_rfl) (by kernel_rfl) (by kernel_rfl) (fun _ _ _ h => h) (Or.inl ⟨by rfl, ?_⟩) (by assumption) ?_
                    rotate_left 1
                    · (intro w hSw; (try dsimp only at hSw); go_simp; try with_reducible rfl)
                    try simp only [Act.put, List.setIfInBounds_toArray, List.set_cons_zero, List.set_cons_succ]
                    refine wpAnyH_done (by kernel_rfl) ?_ _
                    refine NoPanic.normal ?_
                    clear hHeld hce heq
                    have KZ3 := hide (KZW.out.below B31.out)
                    have B30 := hide (BW.out.trans (B31.out.mono hSw))
                    have z0 := KZ3.out.cell 0
                    have z1 := KZ3.out.cell 1
                    have z2 := KZ3.out.cell 2
                    have z3 := KZ3.out.cell 3
                    have z4 := KZ3.out.cell 4
                    have z5 := KZ3.out.cell 5
                    have z6 := KZ3.out.cell 6
                    simp only [List.getElem?_toArray, List.getElem?_cons_succ, List.getElem?_cons_zero] at z0 z1 z2 z3 z4 z5 z6
                    have f0 := KZ3.out.frozen 0
                    have f1 := KZ3.out.frozen 1
                    have f2 := KZ3.out.frozen 2
                    have f3 := KZ3.out.frozen 3
                    have f4 := KZ3.out.frozen 4
                    have f5 := KZ3.out.frozen 5
                    have f6 := KZ3.out.frozen 6
                    have X31 := hide (XF.out.below B31.out)
                    have y0 := X31.out.cell 0
                    have y1 := X31.out.cell 1
                    have y2 := X31.out.cell 2
                    have y3 := X31.out.cell 3
                    have y4 := X31.out.cell 4
                    have y5 := X31.out.cell 5
                    have y6 := X31.out.cell 6
                    simp only [List.getElem?_toArray, List.getElem?_cons_succ, List.getElem?_cons_zero] at y0 y1 y2 y3 y4 y5 y6
                    have OR31 := hide (ORW.out.kp (Kp.of_below (gs := []) B31.out) (by simp))
                    have OW31 := hide (own_bel OW2.out B31.out)
                    go_wp2_with fail
                    have PS := part_set7 KZ3.out (.int .i64 (e : Int)) (.int .i64 (cc : Int)) (.int .i64 (x0 : Int)) (.int .i64 (x1 : Int)) (.int .i64 (x2 : Int)) (.slice Af n' d) (.slice A3 q d3)
                    refine ret_decR rfl rfl rfl PS.1 rfl ⟨.inl ⟨⟨e, cc, x0, x1, x2, fsj, is⟩, xs, ⟨hck, hxs32, henc.symm⟩, Af, d, A3, d3, cs, ?_, ?_, ?_⟩, ?_⟩
                    · dsimp only
                      rw [HIS.out.1, HIS.out.2]
                      rfl
                    · dsimp only
                      rw [HIS.out.2]
                      exact (OR31.out.kp PS.2 (by intro g hg; have := SZ.out; simp only [List.mem_singleton] at hg; omega)).bq HSS.out.2
                    · dsimp only
                      rw [HIS.out.1]
                      exact own_bq (own_kq OW31.out PS.2 (fun g hg => by have h1 := (OW31.out.lt g hg).1; have h2 := SZ2.out; simp only [List.mem_singleton]; omega)) HSS.out.1
                    · rw [← HS.out]
                      exact B30.out.trans (PS.2.below (by have := B30.out.size; have := HS.out; omega) (by simp))
                  · obtain ⟨EL, hEL⟩ : ∃ x, x = encB e cc (wordsB x0 x1 x2 fsj is xs) := ⟨_, rfl⟩
                    have heq : ((txt EL).toList == (txt l).toList) = false := by rw [hEL]; exact txt_ne henc
                    have HEL := hide hEL
                    clear hEL
                    have s0 := CP.out _ (Below.refl _ _).drew
                    refine wp_region_noPanic ?_
                    refine wp_region_held_drew (S := (fun w' => w'.cell? ⟨S + 1, 0, none⟩ = some (.int .i64 (e : Int)) ∧ w'.cell? ⟨S + 1, 1, none⟩ = some (.int .i64 (cc : Int)) ∧ w'.cell? ⟨S + 1, 2, none⟩ = some (.int .i64 (x0 : Int)) ∧ w'.cell? ⟨S + 1, 3, none⟩ = some (.int .i64 (x1 : Int)) ∧ w'.cell? ⟨S + 1, 4, none⟩ = some (.int .i64 (x2 : Int)) ∧ w'.cell? ⟨S + 1, 5, none⟩ = some (.slice Af n' d) ∧ w'.cell? ⟨S + 1, 6, none⟩ = some (.slice A3 q d3) ∧ By w' wr.heap.size (some ⟨b0, off0, none⟩) 128 l)) (by kernel_rfl) ?_ (fun hHeld => ?_)
                    · ((try dsimp only) <;> (first | trivial | assumption | go_keep))
                    clear s0
                    have bd := (Below.refl wr.heap.size wr).drew
                    refine wpAnyH_take (i := 0) (v := ?_) (by simp only [List.getElem?_toArray, List.getElem?_cons_zero]; rfl) (by kernel_rfl) (by kernel_rfl) (by kernel_rfl) (fun _ _ _ h => h) (Or.inl ⟨by rfl, ?_⟩) (by assumption) ?_
                    rotate_left 1
                    · (intro w hSw; (try dsimp only at hSw); go_simp; try with_reducible rfl)
                    try simp only [Act.put, List.setIfInBounds_toArray, List.set_cons_zero, List.set_cons_succ]
                    refine wpAnyH_ready (rs := [1]) (by kernel_rfl) (by simp) ?_
                    refine AllReadyH.cons (by simp only [List.getElem?_toArray, List.getElem?_cons_succ, List.getElem?_cons_zero]; rfl) (fun K hK => ?_) ?_
                    rotate_left 1
                    · exact AllReadyH.nil
                    go_simp
                    refine CK.out.mono ?_; rintro r w30 ⟨rfl, hb⟩; have B29 := hide (bd.trans (hb.mono bd.size)); clear hb
                    refine hK.out _ _ ?_ (fun hHeld2 => ?_)
                    · ((try dsimp only) <;> (exact CP.out _ B29.out))
                    clear hHeld
                    have hHeld := hHeld2
                    clear hHeld2 hK K
                    try simp only [Act.put, List.setIfInBounds_toArray, List.set_cons_zero, List.set_cons_succ]
                    refine wpAnyH_take (i := 2) (v := ?_) (by simp only [List.getElem?_toArray, List.getElem?_cons_succ, List.getElem?_cons_zero]; rfl) (by kernel_rfl) (by kernel_rfl) (by kernel_rfl) (fun _ _ _ h => h) (Or.inl ⟨by rfl, ?_⟩) (by assumption) ?_
                    rotate_left 1
                    · (intro w hSw; (try dsimp only at hSw); go_simp; try with_reducible rfl)
                    try simp only [Act.put, List.setIfInBounds_toArray, List.set_cons_zero, List.set_cons_succ]
                    try simp only [hckn.out]
                    refine wpAnyH_take (i := 3) (v := ?_) (by simp only [List.getElem?_toArray, List.getElem?_cons_succ, List.getElem?_cons_zero]; rfl) (by kernel_rfl) (by kernel_rfl) (by kernel_rfl) (fun _ _ _ h => h) (Or.inl ⟨by rfl, ?_⟩) (by assumption) ?_
                    rotate_left 1
                    · (intro w hSw; (try dsimp only at hSw); go_simp; try with_reducible rfl)
                    try simp only [Act.put, List.setIfInBounds_toArray, List.set_cons_zero, List.set_cons_succ]
                    refine wpAnyH_take (i := 4) (v := ?_) (by simp only [List.getElem?_toArray, List.getElem?_cons_succ, List.getElem?_cons_zero]; rfl) (by kernel_rfl) (by kernel_rfl) (by kernel_rfl) (fun _ _ _ h => h) (Or.inl ⟨by rfl, ?_⟩) (by assumption) ?_
                    rotate_left 1
                    · (intro w hSw; (try dsimp only at hSw); go_simp; try with_reducible rfl)
                    try simp only [Act.put, List.setIfInBounds_toArray, List.set_cons_zero, List.set_cons_succ]
                    refine wpAnyH_take (i := 5) (v := ?_) (by simp only [List.getElem?_toArray, List.getElem?_cons_succ, List.getElem?_cons_zero]; rfl) (by kernel_rfl) (by kernel_rfl) (by kernel_rfl) (fun _ _ _ h => h) (Or.inl ⟨by rfl, ?_⟩) (by assumption) ?_
                    rotate_left 1
                    · (intro w hSw; (try dsimp only at hSw); go_simp; try with_reducible rfl)
                    try simp only [Act.put, List.setIfInBounds_toArray, List.set_cons_zero, List.set_cons_succ]
                    refine wpAnyH_take (i := 8) (v := ?_) (by simp only [List.getElem?_toArray, List.getElem?_cons_succ, List.getElem?_cons_zero]; rfl) (by kernel_rfl) (by kernel_rfl) (by kernel_rfl) (fun _ _ _ h => h) (Or.inl ⟨by rfl, ?_⟩) (by assumption) ?_
                    rotate_left 1
                    · (intro w hSw; (try dsimp only at hSw); go_simp; try with_reducible rfl)
                    try simp only [Act.put, List.setIfInBounds_toArray, List.set_cons_zero, List.set_cons_succ]
                    refine wpAnyH_take (i := 9) (v := ?_) (by simp only [List.getElem?_toArray, List.getElem?_cons_succ, List.getElem?_cons_zero]; rfl) (by kernel_rfl) (by kernel_rfl) (by kernel_rfl) (fun _ _ _ h => h) (Or.inl ⟨by rfl, ?_⟩) (by assumption) ?_
                    rotate_left 1
                    · (intro w hSw; (try dsimp only at hSw); go_simp; try with_reducible rfl)
                    try simp only [Act.put, List.setIfInBounds_toArray, List.set_cons_zero, List.set_cons_succ]
                    have EC := hide (renc_any e cc x0 x1 x2 xs hxs32 Af A3 n' d q d3 w9.heap.size w9.heap.size wf.heap.size wf.heap.size fsj is w30 (ORW.out.kp (Kp.of_below (gs := []) B29.out) (by simp)).fis (RwAt.of_own (own_bel OW2.out B29.out)) hck)
                    rw [← HEL.out] at EC
                    refine wpAnyH_ready (rs := [6]) (by kernel_rfl) (by simp) ?_
                    refine AllReadyH.cons (by simp only [List.getElem?_toArray, List.getElem?_cons_succ, List.getElem?_cons_zero]; rfl) (fun K hK => ?_) ?_
                    rotate_left 1
                    · exact AllReadyH.nil
                    go_simp
                    refine EC.out.mono ?_; rintro r w31 ⟨Ae, ke, rfl, ho, hb⟩; have hce := cv_txt hcv Tryd.underlying30 Tryd.underlying5 Tryd.underlying9 ke (own_byS ho); have B31 := hide (B29.out.trans (hb.mono B29.out.size)); clear ho hb
                    refine hK.out _ _ ?_ (fun hHeld2 => ?_)
                    · ((try dsimp only) <;> (exact CP.out _ B31.out))
                    clear hHeld
                    have hHeld := hHeld2
                    clear hHeld2 hK K
                    try simp only [Act.put, List.setIfInBounds_toArray, List.set_cons_zero, List.set_cons_succ]
                    refine wpAnyH_ready (rs := [7]) (by kernel_rfl) (by simp) ?_
                    refine AllReadyH.cons (by simp only [List.getElem?_toArray, List.getElem?_cons_succ, List.getElem?_cons_zero]; rfl) (fun K hK => ?_) ?_
                    rotate_left 1
                    · exact AllReadyH.nil
                    go_simp
                    refine hK.out _ _ ?_ (fun hHeld2 => ?_)
                    · ((try dsimp only) <;> (exact CP.out _ B31.out))
                    clear hHeld
                    have hHeld := hHeld2
                    clear hHeld2 hK K
                    try simp only [Act.put, List.setIfInBounds_toArray, List.set_cons_zero, List.set_cons_succ]
                    refine wpAnyH_take (i := 10) (v := ?_) (by simp only [List.getElem?_toArray, List.getElem?_cons_succ, List.getElem?_cons_zero]; rfl) (by kernel_rfl) (by kernel_rfl) (by kernel_rfl) (fun _ _ _ h => h) (Or.inl ⟨by rfl, ?_⟩) (by assumption) ?_
                    rotate_left 1
                    · (intro w hSw; (try dsimp only at hSw); go_simp; try with_reducible rfl)
                    try simp only [Act.put, List.setIfInBounds_toArray, List.set_cons_zero, List.set_cons_succ]
                    try simp only [heq, Bool.not_true, Bool.not_false]
                    refine wpAnyH_take (i := 11) (v := ?_) (by simp only [List.getElem?_toArray, List.getElem?_cons_succ, List.getElem?_cons_zero]; rfl) (by kernel_rfl) (by kernel_rfl) (by kernel_rfl) (fun _ _ _ h => h) (Or.inl ⟨by rfl, ?_⟩) (by assumption) ?_
                    rotate_left 1
                    · (intro w hSw; (try dsimp only at hSw); go_simp; try with_reducible rfl)
                    try simp only [Act.put, List.setIfInBounds_toArray, List.set_cons_zero, List.set_cons_succ]
                    refine wpAnyH_done (by kernel_rfl) ?_ _
                    refine NoPanic.normal ?_
                    clear hHeld hce heq
                    have KZ3 := hide (KZW.out.below B31.out)
                    have B30 := hide (BW.out.trans (B31.out.mono hSw))
                    have z0 := KZ3.out.cell 0
                    have z1 := KZ3.out.cell 1
                    have z2 := KZ3.out.cell 2
                    have z3 := KZ3.out.cell 3
                    have z4 := KZ3.out.cell 4
                    have z5 := KZ3.out.cell 5
                    have z6 := KZ3.out.cell 6
                    simp only [List.getElem?_toArray, List.getElem?_cons_succ, List.getElem?_cons_zero] at z0 z1 z2 z3 z4 z5 z6
                    have f0 := KZ3.out.frozen 0
                    have f1 := KZ3.out.frozen 1
                    have f2 := KZ3.out.frozen 2
                    have f3 := KZ3.out.frozen 3
                    have f4 := KZ3.out.frozen 4
                    have f5 := KZ3.out.frozen 5
                    have f6 := KZ3.out.frozen 6
                    have HN := hide (show ∀ v s, ¬ IsEnc l v s from fun v s hv => henc (by
                      have h1 := (parse_okR l).2 ⟨v, s, hv⟩
                      rw [HV.out] at h1
                      exact h1.2))
                    go_wp2_with fail

                    have PS := part_set7 KZ3.out (.int .i64 0) (.int .i64 0) (.int .i64 0) (.int .i64 0) (.int .i64 0) (.slice none 0 0) (.slice none 0 0)
                    refine ret_decR rfl rfl rfl PS.1 rfl ⟨.inr ⟨HN.out, rfl⟩, ?_⟩
                    rw [← HS.out]
                    exact B30.out.trans (PS.2.below (by have := B30.out.size; have := HS.out; omega) (by simp))
end Go.Proofs.YtbamdibpkkponaaDoor
