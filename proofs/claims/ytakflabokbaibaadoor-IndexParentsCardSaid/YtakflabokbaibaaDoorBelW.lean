/- The walks over the reference's width and below. -/
import Derived.Test.YtakflabokbaibaaDoorMRow
import Derived.Test.YtakflabokbaibaaDoorCO3
import Derived.Test.YtakflabokbaibaaDoorIr1W
set_option linter.unusedVariables false
set_option linter.unusedSimpArgs false
namespace Go.Proofs.YtakflabokbaibaaDoor
open Go.RowKit
attribute [local go_sem ↓] Go.wp_at_zero Go.wp_at_succ

theorem width_any (l : Nat) (hl : l ≤ 3) (w : World) : Calls Tryd.prog 30 #[.int .i64 (l : Int)] w fun e w' => e = .returned (.int .i64 ((16 ^ l : Nat) : Int)) ∧ w = w' := by
  have h4 : l = 0 ∨ l = 1 ∨ l = 2 ∨ l = 3 := by omega
  have i0 : ∀ w, (Instr.index 61 (.agg #[.int .i64 1, .int .i64 16, .int .i64 256, .int .i64 4096]) (.int .i64 0)).run Tryd.prog w = .ok (.int .i64 1) w := fun w => by kernel_rfl
  have i1 : ∀ w, (Instr.index 61 (.agg #[.int .i64 1, .int .i64 16, .int .i64 256, .int .i64 4096]) (.int .i64 1)).run Tryd.prog w = .ok (.int .i64 16) w := fun w => by kernel_rfl
  have i2 : ∀ w, (Instr.index 61 (.agg #[.int .i64 1, .int .i64 16, .int .i64 256, .int .i64 4096]) (.int .i64 2)).run Tryd.prog w = .ok (.int .i64 256) w := fun w => by kernel_rfl
  have i3 : ∀ w, (Instr.index 61 (.agg #[.int .i64 1, .int .i64 16, .int .i64 256, .int .i64 4096]) (.int .i64 3)).run Tryd.prog w = .ok (.int .i64 4096) w := fun w => by kernel_rfl
  rcases h4 with rfl | rfl | rfl | rfl <;>
  (go_enter Tryd.func30, Tryd.ntmps30
   go_wp2_with fail
   go_ret
   exact ⟨rfl, rfl⟩)
theorem belowR_len : ∀ (l first : Nat) (p : PathL), (belowR l first p).length ≤ 17 ^ l
  | 0, _, _ => by unfold belowR; exact Nat.zero_le _
  | l + 1, first, p => by
    unfold belowR
    split
    · exact Nat.zero_le _
    · rw [List.length_cons, List.length_flatMap]
      have h : ∀ is : List Nat, (is.map fun i => (belowR l (first + i * 16 ^ l) ⟨p.root, p.metas ++ [-(first : Int) - (l : Int)], p.slots ++ [i]⟩).length).sum ≤ is.length * 17 ^ l := fun is => by
        induction is with
        | nil => simp
        | cons i is ih =>
          rw [List.map_cons, List.sum_cons, List.length_cons, Nat.succ_mul]
          have := belowR_len l (first + i * 16 ^ l) ⟨p.root, p.metas ++ [-(first : Int) - (l : Int)], p.slots ++ [i]⟩
          omega
      have h2 := h (List.range 16)
      rw [List.length_range] at h2
      have h3 : 1 ≤ 17 ^ l := Nat.one_le_pow _ _ (by omega)
      rw [Nat.pow_succ]
      omega
theorem below_nil (l first : Nat) (hl : l ≤ 3) (h : l = 0 ∨ 600 ≤ first) (v : Value) (w : World) (r : Int) (A1 A2 : Option Addr) (n1 c1 n2 c2 : Nat) : Calls Tryd.prog 32 #[.int .i64 (l : Int), .int .i64 (first : Int), .agg #[.int .i64 r, .slice A1 n1 c1, .slice A2 n2 c2]] w fun e w' => e = .returned (.slice none 0 0) ∧ Below w.heap.size w w' := by
  by_cases h0 : l = 0
  · subst h0
    clear h
    go_enter Tryd.func32, Tryd.ntmps32
    go_wp2_with fail
    go_ret
    exact ⟨rfl, (Below.refl _ _).alloc (Nat.le_refl _) _⟩
  · have hd : ((l : Int) == 0) = false := by rw [beq_eq_false_iff_ne]; omega
    have h6 : 600 ≤ first := by omega
    have h6' : (600 : Int) ≤ (first : Int) := by omega
    clear h h0
    go_enter Tryd.func32, Tryd.ntmps32
    go_wp2_with fail
    go_ret
    exact ⟨rfl, (Below.refl _ _).alloc (Nat.le_refl _) _⟩
/-- What below holds in its round. -/
structure BelM (w0 w : World) (g5 g7 : Nat) (r : Nat) (p : PathL) (A1 : Option Addr) (c1 : Nat) (A2 : Option Addr) (c2 : Nat) (m : MetaL) (A : Option Addr) (n c : Nat) (ms : List MetaL) : Prop where
  kP : Blk w g5 39 #[.int .i64 (r : Int), .slice A1 p.metas.length c1, .slice A2 p.slots.length c2]
  kM : Blk w g7 41 (metaV m A1 c1 A2 c2).toArray
  r1 : RdI w A1 p.metas.length p.metas
  r2 : RdI w A2 p.slots.length (natsI p.slots)
  row : MRow w (g7 + 1) A n c ms
  b : w0.heap.size ≤ g5 ∧ g5 < g7 ∧ g7 + 1 ≤ w.heap.size
  bel : Below w0.heap.size w0 w
theorem BelM.below {w0 w w' : World} {g5 g7 r c1 c2 n c : Nat} {p : PathL} {A1 A2 A : Option Addr} {m : MetaL} {ms : List MetaL} (h : BelM w0 w g5 g7 r p A1 c1 A2 c2 m A n c ms) (hb : Below w.heap.size w w') : BelM w0 w' g5 g7 r p A1 c1 A2 c2 m A n c ms :=
  ⟨h.kP.below hb, h.kM.below hb, h.r1.below hb, h.r2.below hb, h.row.below hb, ⟨h.b.1, h.b.2.1, Nat.le_trans h.b.2.2 hb.size⟩, h.bel.trans (hb.mono h.bel.size)⟩
theorem bel_w3 {p : PathL} {A1 A2 : Option Addr} {c1 c2 : Nat} {w0 : World} (h1 : RdI w0 A1 p.metas.length p.metas) (h2 : RdI w0 A2 p.slots.length (natsI p.slots)) (m : MetaL) (hm : m.p = p) :
    BelM w0 (((w0.alloc (.cells #[.int .i64 (p.root : Int), .slice A1 p.metas.length c1, .slice A2 p.slots.length c2] 39)).alloc (.cells (metaV m A1 c1 A2 c2).toArray 41)).alloc (.cells (metaV m A1 c1 A2 c2).toArray 41))
      w0.heap.size (w0.heap.size + 1) p.root p A1 c1 A2 c2 m (some ⟨w0.heap.size + 1 + 1, 0, none⟩) 1 1 [m] := by
  subst hm
  have hb1 := (Below.refl w0.heap.size w0).alloc (Nat.le_refl _) (.cells #[.int .i64 (m.p.root : Int), .slice A1 m.p.metas.length c1, .slice A2 m.p.slots.length c2] 39)
  have hb2 := hb1.alloc hb1.size (.cells (metaV m A1 c1 A2 c2).toArray 41)
  have hb3 := hb2.alloc hb2.size (.cells (metaV m A1 c1 A2 c2).toArray 41)
  have k7 := Blk.new (w0.alloc (.cells #[.int .i64 (m.p.root : Int), .slice A1 m.p.metas.length c1, .slice A2 m.p.slots.length c2] 39)) 41 (metaV m A1 c1 A2 c2).toArray
  have k8 := Blk.new ((w0.alloc (.cells #[.int .i64 (m.p.root : Int), .slice A1 m.p.metas.length c1, .slice A2 m.p.slots.length c2] 39)).alloc (.cells (metaV m A1 c1 A2 c2).toArray 41)) 41 (metaV m A1 c1 A2 c2).toArray
  simp only [World.size_alloc] at k7 k8
  refine ⟨((Blk.new w0 _ _).alloc _).alloc _, k7.alloc _, h1.below hb3, h2.below hb3, ⟨[metaV m A1 c1 A2 c2], rfl, rfl, ⟨rfl, .inr ⟨w0.heap.size + 1 + 1, 1, _, rfl, by omega, k8, Nat.le_refl _, by simp [maxLen], rfl, by simp [metaV]⟩⟩, fun j x mm hx hmm => ?_⟩, ⟨Nat.le_refl _, by omega, by simp⟩, hb3⟩
  rcases j with _ | j
  · injection hx with hx
    injection hmm with hmm
    subst hx hmm
    exact ⟨A1, c1, A2, c2, rfl, h1.below hb3, h2.below hb3⟩
  · simp at hx
set_option maxHeartbeats 2000000 in
set_option maxRecDepth 100000 in
theorem below_step (l : Nat) (hl : l ≤ 2)
    (ih : ∀ (first : Nat) (p : PathL) (A1 : Option Addr) (c1 : Nat) (A2 : Option Addr) (c2 : Nat) (w : World), first ≤ 100000 → p.root ≤ 10 → p.metas.length + l ≤ 10 → p.slots.length + l ≤ 10 → RdI w A1 p.metas.length p.metas → RdI w A2 p.slots.length (natsI p.slots) →
      Calls Tryd.prog 32 #[.int .i64 (l : Int), .int .i64 (first : Int), .agg #[.int .i64 (p.root : Int), .slice A1 p.metas.length c1, .slice A2 p.slots.length c2]] w fun e w' =>
        ∃ A n c, e = .returned (.slice A n c) ∧ MRow w' w.heap.size A n c (belowR l first p) ∧ Below w.heap.size w w')
    (first : Nat) (p : PathL) (A1 : Option Addr) (c1 : Nat) (A2 : Option Addr) (c2 : Nat) (w : World) (hf : first < 600) (hr : p.root ≤ 10) (hm9 : p.metas.length + (l + 1) ≤ 10) (hs9 : p.slots.length + (l + 1) ≤ 10) (h1 : RdI w A1 p.metas.length p.metas) (h2 : RdI w A2 p.slots.length (natsI p.slots)) :
      Calls Tryd.prog 32 #[.int .i64 ((l + 1 : Nat) : Int), .int .i64 (first : Int), .agg #[.int .i64 (p.root : Int), .slice A1 p.metas.length c1, .slice A2 p.slots.length c2]] w fun e w' =>
        ∃ A n c, e = .returned (.slice A n c) ∧ MRow w' w.heap.size A n c (belowR (l + 1) first p) ∧ Below w.heap.size w w' := by
  have IH := hide ih
  have H1 := hide h1
  have H2 := hide h2
  have HM := hide hm9
  have HS := hide hs9
  have HR := hide hr
  clear ih h1 h2 hm9 hs9 hr
  obtain ⟨lev, hlev⟩ : ∃ lev, lev = l + 1 := ⟨_, rfl⟩
  rw [← hlev]
  have HL := hide hlev
  have hd : ((lev : Int) == 0) = false := by rw [beq_eq_false_iff_ne]; omega
  have hf' : ¬ (600 : Int) ≤ (first : Int) := by omega
  have hw1 : IntKind.i64.wrap ((lev : Int) - 1) = (l : Int) := by rw [IntKind.wrap_i64]; omega
  have hw2 : IntKind.i64.wrap (-(first : Int)) = -(first : Int) := by rw [IntKind.wrap_i64]; omega
  have hw3 : IntKind.i64.wrap (-(first : Int) - (l : Int)) = -(first : Int) - (l : Int) := by rw [IntKind.wrap_i64]; omega
  clear hlev
  go_enter Tryd.func32, Tryd.ntmps32
  go_wp2_with fail
  obtain ⟨m0, hm0⟩ : ∃ m0 : MetaL, m0 = ⟨-(first : Int) - (l : Int), lev, first, p⟩ := ⟨_, rfl⟩
  have B1 := bel_w3 (c1 := c1) (c2 := c2) H1.out H2.out m0 (by rw [hm0])
  have HB := hide B1
  clear B1
  rw [hm0] at HB
  simp only [metaV] at HB
  go_loopw [8, 9] (fun x y wr => ∃ (i n c : Nat) (A : Option Addr), i ≤ 16 ∧ x = .slice A n c ∧ y = .int .i64 (i : Int) ∧ BelM w wr w.heap.size (w.heap.size + 1) p.root p A1 c1 A2 c2 ⟨-(first : Int) - (l : Int), lev, first, p⟩ A n c
      (⟨-(first : Int) - (l : Int), lev, first, p⟩ :: (List.range i).flatMap fun i => belowR l (first + i * 16 ^ l) ⟨p.root, p.metas ++ [-(first : Int) - (l : Int)], p.slots ++ [i]⟩)) (fun _ y _ => 16 - (intOf y).toNat)
  case atStart => exact ⟨0, 1, 1, _, Nat.zero_le _, rfl, rfl, HB.out⟩
  case round =>
    obtain ⟨i, n, c, A, hi, rfl, rfl, hm⟩ := hrel
    have M := hide hm
    by_cases hlt : i < 16
    · have a1 := hm.kP.cell 0
      have a2 := hm.kP.cell 1
      have a3 := hm.kP.cell 2
      have a4 := hm.kM.cell 0
      simp only [metaV, List.getElem?_toArray, List.getElem?_cons_succ, List.getElem?_cons_zero] at a1 a2 a3 a4
      have s1 := sl_of_nrow hm.r1
      have s2 := sl_of_nrow hm.r2
      have S1 := hide s1
      have S2 := hide s2
      have hcells := hide (fun (w' : World) (hb : Below wr.heap.size wr w') => And.intro (And.intro (hm.kP.below hb) (hm.kM.below hb)) hb)
      clear s1 s2 hm HB
      generalize w.heap.size = g5 at *
      go_wp2_with fail
      refine wp_region_noPanic ?_
      refine wp_region_held_drew (S := (fun w' => w'.cell? ⟨g5, 0, none⟩ = some (.int .i64 (p.root : Int)) ∧ w'.cell? ⟨g5, 1, none⟩ = some (.slice A1 p.metas.length c1) ∧ w'.cell? ⟨g5, 2, none⟩ = some (.slice A2 p.slots.length c2) ∧ w'.cell? ⟨g5 + 1, 0, none⟩ = some (.int .i64 (-(first : Int) - (l : Int))))) (by kernel_rfl) ?_ (fun hHeld => ?_)
      · ((try dsimp only) <;> (first | trivial | assumption | go_keep))
      refine wpAnyH_take (i := 0) (v := ?_) (by simp only [List.getElem?_toArray, List.getElem?_cons_succ, List.getElem?_cons_zero]; rfl) (by kernel_rfl) (by kernel_rfl) (by kernel_rfl) (fun _ _ _ h => h) (Or.inl ⟨by rfl, ?_⟩) (by assumption) ?_
      rotate_left 1
      · (intro w hSw; (try dsimp only at hSw); go_simp; try with_reducible rfl)
      try simp only [Act.put, List.setIfInBounds_toArray, List.set_cons_zero, List.set_cons_succ]
      refine wpAnyH_take (i := 1) (v := ?_) (by simp only [List.getElem?_toArray, List.getElem?_cons_succ, List.getElem?_cons_zero]; rfl) (by kernel_rfl) (by kernel_rfl) (by kernel_rfl) (fun _ _ _ h => h) (Or.inl ⟨by rfl, ?_⟩) (by assumption) ?_
      rotate_left 1
      · (intro w hSw; (try dsimp only at hSw); go_simp; try with_reducible rfl)
      try simp only [Act.put, List.setIfInBounds_toArray, List.set_cons_zero, List.set_cons_succ]
      refine wpAnyH_take (i := 3) (v := ?_) (by simp only [List.getElem?_toArray, List.getElem?_cons_succ, List.getElem?_cons_zero]; rfl) (by kernel_rfl) (by kernel_rfl) (by kernel_rfl) (fun _ _ _ h => h) (Or.inl ⟨by rfl, ?_⟩) (by assumption) ?_
      rotate_left 1
      · (intro w hSw; (try dsimp only at hSw); go_simp; try with_reducible rfl)
      try simp only [Act.put, List.setIfInBounds_toArray, List.set_cons_zero, List.set_cons_succ]
      refine wpAnyH_take (i := 4) (v := ?_) (by simp only [List.getElem?_toArray, List.getElem?_cons_succ, List.getElem?_cons_zero]; rfl) (by kernel_rfl) (by kernel_rfl) (by kernel_rfl) (fun _ _ _ h => h) (Or.inl ⟨by rfl, ?_⟩) (by assumption) ?_
      rotate_left 1
      · (intro w hSw; (try dsimp only at hSw); go_simp; try with_reducible rfl)
      try simp only [Act.put, List.setIfInBounds_toArray, List.set_cons_zero, List.set_cons_succ]
      refine wpAnyH_take (i := 6) (v := ?_) (by simp only [List.getElem?_toArray, List.getElem?_cons_succ, List.getElem?_cons_zero]; rfl) (by kernel_rfl) (by kernel_rfl) (by kernel_rfl) (fun _ _ _ h => h) (Or.inl ⟨by rfl, ?_⟩) (by assumption) ?_
      rotate_left 1
      · (intro w hSw; (try dsimp only at hSw); go_simp; try with_reducible rfl)
      try simp only [Act.put, List.setIfInBounds_toArray, List.set_cons_zero, List.set_cons_succ]
      refine wpAnyH_take (i := 7) (v := ?_) (by simp only [List.getElem?_toArray, List.getElem?_cons_succ, List.getElem?_cons_zero]; rfl) (by kernel_rfl) (by kernel_rfl) (by kernel_rfl) (fun _ _ _ h => h) (Or.inl ⟨by rfl, ?_⟩) (by assumption) ?_
      rotate_left 1
      · (intro w hSw; (try dsimp only at hSw); go_simp; try with_reducible rfl)
      try simp only [Act.put, List.setIfInBounds_toArray, List.set_cons_zero, List.set_cons_succ]
      refine wpAnyH_take (i := 11) (v := ?_) (by simp only [List.getElem?_toArray, List.getElem?_cons_succ, List.getElem?_cons_zero]; rfl) (by kernel_rfl) (by kernel_rfl) (by kernel_rfl) (fun _ _ _ h => h) (Or.inl ⟨by rfl, ?_⟩) (by assumption) ?_
      rotate_left 1
      · (intro w hSw; (try dsimp only at hSw); go_simp; try with_reducible rfl)
      try simp only [Act.put, List.setIfInBounds_toArray, List.set_cons_zero, List.set_cons_succ]
      refine wpAnyH_take (i := 12) (v := ?_) (by simp only [List.getElem?_toArray, List.getElem?_cons_succ, List.getElem?_cons_zero]; rfl) (by kernel_rfl) (by kernel_rfl) (by kernel_rfl) (fun _ _ _ h => h) (Or.inl ⟨by rfl, ?_⟩) (by assumption) ?_
      rotate_left 1
      · (intro w hSw; (try dsimp only at hSw); go_simp; try with_reducible rfl)
      try simp only [Act.put, List.setIfInBounds_toArray, List.set_cons_zero, List.set_cons_succ]
      refine wpAnyH_take (i := 14) (v := ?_) (by simp only [List.getElem?_toArray, List.getElem?_cons_succ, List.getElem?_cons_zero]; rfl) (by kernel_rfl) (by kernel_rfl) (by kernel_rfl) (fun _ _ _ h => h) (Or.inl ⟨by rfl, ?_⟩) (by assumption) ?_
      rotate_left 1
      · (intro w hSw; (try dsimp only at hSw); go_simp; try with_reducible rfl)
      try simp only [Act.put, List.setIfInBounds_toArray, List.set_cons_zero, List.set_cons_succ]
      refine region_rows (fuel := 1) (w0 := wr) (base := wr.heap.size) (stop := 19) (C := [⟨2, 34, [], [], RowF 3 wr.heap.size []⟩, ⟨5, 37, [2], [2], RowF 3 wr.heap.size (intC p.metas)⟩, ⟨8, 40, [], [], BufF 3 wr.heap.size [.int .i64 (-(first : Int) - (l : Int))]⟩,
        ⟨9, 41, [5], [5, 8], RowF 3 wr.heap.size (intC p.metas ++ [.int .i64 (-(first : Int) - (l : Int))])⟩, ⟨10, 42, [], [], RowF 3 wr.heap.size []⟩, ⟨13, 45, [10], [10], RowF 3 wr.heap.size (intC (natsI p.slots))⟩, ⟨15, 47, [], [], BufF 3 wr.heap.size [.int .i64 (i : Int)]⟩,
        ⟨16, 48, [13], [13, 15], RowF 3 wr.heap.size (intC (natsI p.slots) ++ [.int .i64 (i : Int)])⟩, ⟨17, 49, [9, 16], [9, 16], AggF 3 wr.heap.size (p.root : Int) (intC p.metas ++ [.int .i64 (-(first : Int) - (l : Int))]) (intC (natsI p.slots) ++ [.int .i64 (i : Int)])⟩, ⟨18, 10, [], [], NewF 39 wr.heap.size #[.int .i64 0, .slice none 0 0, .slice none 0 0]⟩])
        (ok_of_cd (by kernel_rfl)) ?hok ?hst ?hS (Below.refl _ _).drew (Nat.le_refl _) ?hend
      case hok =>
        intro x hx
        simp only [List.mem_cons, List.not_mem_nil, or_false] at hx
        rcases hx with rfl | rfl | rfl | rfl | rfl | rfl | rfl | rfl | rfl | rfl
        · exact rowF_ok _ _ _ _ _ _ _
        · exact rowF_ok _ _ _ _ _ _ _
        · exact bufF_ok _ _ _ _ _ _ _
        · exact rowF_ok _ _ _ _ _ _ _
        · exact rowF_ok _ _ _ _ _ _ _
        · exact rowF_ok _ _ _ _ _ _ _
        · exact bufF_ok _ _ _ _ _ _ _
        · exact rowF_ok _ _ _ _ _ _ _
        · exact aggF_ok _ _ _ _ _ _ _ _ _
        · exact newF_ok _ _ _ _ _ _ _
      case hS =>
        intro w' hb hs
        obtain ⟨⟨k1, k2⟩, -⟩ := hcells.out w' hb
        exact ⟨k1.cell 0, k1.cell 1, k1.cell 2, k2.cell 0⟩
      case hst =>
        have hm2 := HM.out
        have hs2 := HS.out
        have lS : (natsI p.slots).length = p.slots.length := natsI_len _
        intro x hx
        simp only [List.mem_cons, List.not_mem_nil, or_false] at hx
        rcases hx with rfl | rfl | rfl | rfl | rfl | rfl | rfl | rfl | rfl | rfl
        · exact step_empty (by simp only [List.getElem?_toArray, List.getElem?_cons_succ, List.getElem?_cons_zero]; rfl) (by rfl) (by rfl) (by rfl) rfl
        · exact step_src (by simp only [List.getElem?_toArray, List.getElem?_cons_succ, List.getElem?_cons_zero]; rfl) (by rfl) (by rfl) 34 36 (by rfl) ⟨2, 34, [], [], RowF 3 wr.heap.size []⟩ (by simp) rfl (by simp) (by simp) [] rfl (by intro z hz; simp only [List.mem_cons, List.not_mem_nil, or_false] at hz; rcases hz with rfl | rfl | rfl | rfl | rfl | rfl | rfl | rfl | rfl | rfl <;> simp) wr.heap.size A1 _ c1 p.metas (by rfl) S1.out (Nat.le_refl _) (by simp; omega) rfl
        · exact step_buf1 (by simp only [List.getElem?_toArray, List.getElem?_cons_succ, List.getElem?_cons_zero]; rfl) (by rfl) (by rfl) 39 (by rfl) (by intro z hz; simp only [List.mem_cons, List.not_mem_nil, or_false] at hz; rcases hz with rfl | rfl | rfl | rfl | rfl | rfl | rfl | rfl | rfl | rfl <;> simp) _ (by rfl) rfl
        · exact step_add (by simp only [List.getElem?_toArray, List.getElem?_cons_succ, List.getElem?_cons_zero]; rfl) (by rfl) (by rfl) 37 40 (by rfl) ⟨5, 37, [2], [2], RowF 3 wr.heap.size (intC p.metas)⟩ (by simp) rfl (by simp) (by simp) (intC p.metas) rfl ⟨8, 40, [], [], BufF 3 wr.heap.size [.int .i64 (-(first : Int) - (l : Int))]⟩ (by simp) rfl (by simp) _ rfl (by rw [intC_len]; omega) rfl
        · exact step_empty (by simp only [List.getElem?_toArray, List.getElem?_cons_succ, List.getElem?_cons_zero]; rfl) (by rfl) (by rfl) (by rfl) rfl
        · exact step_src (by simp only [List.getElem?_toArray, List.getElem?_cons_succ, List.getElem?_cons_zero]; rfl) (by rfl) (by rfl) 42 44 (by rfl) ⟨10, 42, [], [], RowF 3 wr.heap.size []⟩ (by simp) rfl (by simp) (by simp) [] rfl (by intro z hz; simp only [List.mem_cons, List.not_mem_nil, or_false] at hz; rcases hz with rfl | rfl | rfl | rfl | rfl | rfl | rfl | rfl | rfl | rfl <;> simp) wr.heap.size A2 _ c2 (natsI p.slots) (by rfl) S2.out (Nat.le_refl _) (by simp [lS]; omega) rfl
        · exact step_buf1 (by simp only [List.getElem?_toArray, List.getElem?_cons_succ, List.getElem?_cons_zero]; rfl) (by rfl) (by rfl) 46 (by rfl) (by intro z hz; simp only [List.mem_cons, List.not_mem_nil, or_false] at hz; rcases hz with rfl | rfl | rfl | rfl | rfl | rfl | rfl | rfl | rfl | rfl <;> simp) _ (by rfl) rfl
        · exact step_add (by simp only [List.getElem?_toArray, List.getElem?_cons_succ, List.getElem?_cons_zero]; rfl) (by rfl) (by rfl) 45 47 (by rfl) ⟨13, 45, [10], [10], RowF 3 wr.heap.size (intC (natsI p.slots))⟩ (by simp) rfl (by simp) (by simp) (intC (natsI p.slots)) rfl ⟨15, 47, [], [], BufF 3 wr.heap.size [.int .i64 (i : Int)]⟩ (by simp) rfl (by simp) _ rfl (by rw [intC_len, lS]; omega) rfl
        · exact step_path (by simp only [List.getElem?_toArray, List.getElem?_cons_succ, List.getElem?_cons_zero]; rfl) (by rfl) (by rfl) 33 41 48 (by rfl) (by intro z hz; simp only [List.mem_cons, List.not_mem_nil, or_false] at hz; rcases hz with rfl | rfl | rfl | rfl | rfl | rfl | rfl | rfl | rfl | rfl <;> simp) _ (by rfl) ⟨9, 41, [5], [5, 8], RowF 3 wr.heap.size (intC p.metas ++ [.int .i64 (-(first : Int) - (l : Int))])⟩ ⟨16, 48, [13], [13, 15], RowF 3 wr.heap.size (intC (natsI p.slots) ++ [.int .i64 (i : Int)])⟩ (by simp) (by simp) rfl rfl (by simp) (by simp) (by simp) (by simp) _ _ rfl rfl rfl
        · exact step_new (by simp only [List.getElem?_toArray, List.getElem?_cons_succ, List.getElem?_cons_zero]; rfl) (by rfl) (by rfl) (by rfl) rfl
      case hend =>
        intro vals w2 hb2 hs2 hF hap
        have f17 := hF ⟨17, 49, [9, 16], [9, 16], AggF 3 wr.heap.size (p.root : Int) (intC p.metas ++ [.int .i64 (-(first : Int) - (l : Int))]) (intC (natsI p.slots) ++ [.int .i64 (i : Int)])⟩ (by simp) (by simp)
        have f18 := hF ⟨18, 10, [], [], NewF 39 wr.heap.size #[.int .i64 0, .slice none 0 0, .slice none 0 0]⟩ (by simp) (by simp)
        have hap2 := hap ⟨17, 49, [9, 16], [9, 16], AggF 3 wr.heap.size (p.root : Int) (intC p.metas ++ [.int .i64 (-(first : Int) - (l : Int))]) (intC (natsI p.slots) ++ [.int .i64 (i : Int)])⟩ (by simp) ⟨18, 10, [], [], NewF 39 wr.heap.size #[.int .i64 0, .slice none 0 0, .slice none 0 0]⟩ (by simp) (by simp) (by simp) (by simp)
        clear hF hap
        simp only at f17 f18
        obtain ⟨B1, n1, d1, B2, n2, d2, hv17, o1, o2⟩ := f17
        obtain ⟨g10, hv18, hg10, k10⟩ := f18
        simp only at hap2
        rw [hv17, hv18] at hap2
        simp only [List.foldl_cons, List.foldl_nil, hv17, hv18]
        generalize vals 2 = x2
        generalize vals 5 = x5
        generalize vals 8 = x8
        generalize vals 9 = x9
        generalize vals 10 = x10
        generalize vals 13 = x13
        generalize vals 15 = x15
        generalize vals 16 = x16
        clear hv17 hv18
        simp only [Act.put, List.setIfInBounds_toArray, List.set_cons_zero, List.set_cons_succ]
        have cC : ∀ w' : World, Below wr.heap.size wr w' → w'.cell? ⟨g5, 0, none⟩ = some (.int .i64 (p.root : Int)) ∧ w'.cell? ⟨g5, 1, none⟩ = some (.slice A1 p.metas.length c1) ∧ w'.cell? ⟨g5, 2, none⟩ = some (.slice A2 p.slots.length c2) ∧ w'.cell? ⟨g5 + 1, 0, none⟩ = some (.int .i64 (-(first : Int) - (l : Int))) := fun w' hb => by
          obtain ⟨⟨k1, k2⟩, -⟩ := hcells.out w' hb
          exact ⟨k1.cell 0, k1.cell 1, k1.cell 2, k2.cell 0⟩
        have hHeld := cC w2 hb2
        have hb3 := hide (((hb2.setCell (p := ⟨g10, 0, none⟩) hg10 (.int .i64 (p.root : Int))).setCell (p := ⟨g10, 1, none⟩) hg10 (.slice B1 n1 d1)).setCell (p := ⟨g10, 2, none⟩) hg10 (.slice B2 n2 d2))
        have k11 := hide (((k10.set 0 (.int .i64 (p.root : Int))).set 1 (.slice B1 n1 d1)).set 2 (.slice B2 n2 d2))
        have hH3 := cC _ hb3.out
        clear cC
        have u0 := k10.cell 0
        have u1 := k10.cell 1
        have u2 := k10.cell 2
        have z0 := k10.frozen 0
        have z1 := k10.frozen 1
        have z2 := k10.frozen 2
        simp only [List.getElem?_toArray, List.getElem?_cons_succ, List.getElem?_cons_zero] at u0 u1 u2
        refine wpAnyH_ready (rs := [19]) (by kernel_rfl) (by simp) ?_
        refine AllReadyH.cons (by simp only [List.getElem?_toArray, List.getElem?_cons_succ, List.getElem?_cons_zero]; rfl) (fun K hK => ?_) ?_
        rotate_left 1
        · exact AllReadyH.nil
        go_simp
        refine hK.out _ _ ?_ (fun hHeld2 => ?_)
        · ((try dsimp only) <;> (first | trivial | assumption | go_keep))
        clear hHeld
        have hHeld := hHeld2
        clear hHeld2 hK K
        try simp only [Act.put, List.setIfInBounds_toArray, List.set_cons_zero, List.set_cons_succ]
        refine wpAnyH_done (by kernel_rfl) ?_ _
        refine NoPanic.normal ?_
        have hn1 : n1 = (p.metas ++ [-(first : Int) - (l : Int)]).length := by have := o1.1; rw [show intC p.metas ++ [.int .i64 (-(first : Int) - (l : Int))] = intC (p.metas ++ [-(first : Int) - (l : Int)]) from intC_app _ _, intC_len] at this; omega
        have hn2 : n2 = (p.slots ++ [i]).length := by have := o2.1; rw [show intC (natsI p.slots) ++ [.int .i64 (i : Int)] = intC (natsI (p.slots ++ [i])) from by rw [intC_app, natsI_app], intC_len, natsI_len] at this; omega
        rw [show intC p.metas ++ [.int .i64 (-(first : Int) - (l : Int))] = intC (p.metas ++ [-(first : Int) - (l : Int)]) from intC_app _ _] at o1
        rw [show intC (natsI p.slots) ++ [.int .i64 (i : Int)] = intC (natsI (p.slots ++ [i])) from by rw [intC_app, natsI_app]] at o2
        have hk3 := (((Kp.refl [g10] w2).set (p := ⟨g10, 0, none⟩) (.inl (by simp)) (.int .i64 (p.root : Int))).set (p := ⟨g10, 1, none⟩) (.inl (by simp)) (.slice B1 n1 d1)).set (p := ⟨g10, 2, none⟩) (.inl (by simp)) (.slice B2 n2 d2)
        have Q1 := hide ((nrow_of_own (own_kq o1 hk3 (fun g hg e => hap2 g (aggF_vbs.2 (.inl (ownBlock_vbs.1 hg))) (by simp at e; subst e; simp [vbs, vb1])))).base (Nat.zero_le _))
        have Q2 := hide ((nrow_of_own (own_kq o2 hk3 (fun g hg e => hap2 g (aggF_vbs.2 (.inr (ownBlock_vbs.1 hg))) (by simp at e; subst e; simp [vbs, vb1])))).base (Nat.zero_le _))
        have K11 := hide (show Blk _ g10 39 #[.int .i64 (p.root : Int), .slice B1 n1 d1, .slice B2 n2 d2] by simpa using k11.out)
        clear hHeld hH3 u0 u1 u2 z0 z1 z2 k10 k11 o1 o2 hap2 hk3 hb2 hs2 a1 a2 a3 a4
        generalize ((w2.setCell ⟨g10, 0, none⟩ (.int .i64 (p.root : Int))).setCell ⟨g10, 1, none⟩ (.slice B1 n1 d1)).setCell ⟨g10, 2, none⟩ (.slice B2 n2 d2) = w3 at *
        have M3 := hide (M.out.below hb3.out)
        obtain ⟨q, hq⟩ : ∃ q, q = 16 ^ l := ⟨_, rfl⟩
        have hq256 : q ≤ 256 := by rw [hq]; exact Nat.le_trans (Nat.pow_le_pow_right (by decide) hl) (by decide)
        obtain ⟨iq, hiq⟩ : ∃ iq, iq = i * q := ⟨_, rfl⟩
        have hiq2 : iq ≤ 4096 := by rw [hiq]; exact Nat.le_trans (Nat.mul_le_mul (show i ≤ 16 by omega) hq256) (by decide)
        obtain ⟨f2, hf2⟩ : ∃ f2, f2 = first + iq := ⟨_, rfl⟩
        have hwm : IntKind.i64.wrap ((i : Int) * (q : Int)) = (iq : Int) := by rw [hiq, IntKind.wrap_i64, ← Int.natCast_mul, ← hiq]; omega
        have hwa : IntKind.i64.wrap ((first : Int) + (iq : Int)) = (f2 : Int) := by rw [IntKind.wrap_i64]; omega
        have hf2' : f2 ≤ 100000 := by omega
        have W9 := hide (fun w => width_any l (by omega) w)
        rw [← hq] at W9
        have HF2 := hide (show f2 = first + i * 16 ^ l by rw [hf2, hiq, hq])
        have t0 := K11.out.cell 0
        have t1 := K11.out.cell 1
        have t2 := K11.out.cell 2
        simp only [List.getElem?_toArray, List.getElem?_cons_succ, List.getElem?_cons_zero] at t0 t1 t2
        obtain ⟨p2, hp2⟩ : ∃ p2 : PathL, p2 = ⟨p.root, p.metas ++ [-(first : Int) - (l : Int)], p.slots ++ [i]⟩ := ⟨_, rfl⟩
        have IH2 := hide (fun (w4 : World) (hb : Below w3.heap.size w3 w4) => IH.out f2 p2 B1 d1 B2 d2 w4 hf2' (by rw [hp2]; exact HR.out) (by rw [hp2]; have := HM.out; simp; omega) (by rw [hp2]; have := HS.out; simp; omega)
          (by have := Q1.out.below hb; rw [hn1] at this; rw [hp2]; exact this) (by have := Q2.out.below hb; rw [hn2] at this; rw [hp2]; exact this))
        rw [hp2] at IH2
        simp only at IH2
        rw [← hn1, ← hn2, ← hp2] at IH2
        clear hq hiq hf2 hf2' hHeld hn1 hn2
        go_wp2_with fail
        refine wp_region_noPanic ?_
        refine wp_region_held_drew (S := (fun w' => w'.cell? ⟨g10, 0, none⟩ = some (.int .i64 (p.root : Int)) ∧ w'.cell? ⟨g10, 1, none⟩ = some (.slice B1 n1 d1) ∧ w'.cell? ⟨g10, 2, none⟩ = some (.slice B2 n2 d2))) (by kernel_rfl) ?_ (fun hHeld => ?_)
        · ((try dsimp only) <;> (first | trivial | assumption | go_keep))
        refine wpAnyH_take (i := 0) (v := ?_) (by simp only [List.getElem?_toArray, List.getElem?_cons_succ, List.getElem?_cons_zero]; rfl) (by kernel_rfl) (by kernel_rfl) (by kernel_rfl) (fun _ _ _ h => h) (Or.inl ⟨by rfl, ?_⟩) (by assumption) ?_
        rotate_left 1
        · (intro w hSw; (try dsimp only at hSw); go_simp; try with_reducible rfl)
        try simp only [Act.put, List.setIfInBounds_toArray, List.set_cons_zero, List.set_cons_succ]
        refine wpAnyH_take (i := 1) (v := ?_) (by simp only [List.getElem?_toArray, List.getElem?_cons_succ, List.getElem?_cons_zero]; rfl) (by kernel_rfl) (by kernel_rfl) (by kernel_rfl) (fun _ _ _ h => h) (Or.inl ⟨by rfl, ?_⟩) (by assumption) ?_
        rotate_left 1
        · (intro w hSw; (try dsimp only at hSw); go_simp; try with_reducible rfl)
        try simp only [Act.put, List.setIfInBounds_toArray, List.set_cons_zero, List.set_cons_succ]
        refine wpAnyH_take (i := 2) (v := ?_) (by simp only [List.getElem?_toArray, List.getElem?_cons_succ, List.getElem?_cons_zero]; rfl) (by kernel_rfl) (by kernel_rfl) (by kernel_rfl) (fun _ _ _ h => h) (Or.inl ⟨by rfl, ?_⟩) (by assumption) ?_
        rotate_left 1
        · (intro w hSw; (try dsimp only at hSw); go_simp; try with_reducible rfl)
        try simp only [Act.put, List.setIfInBounds_toArray, List.set_cons_zero, List.set_cons_succ]
        refine wpAnyH_take (i := 3) (v := ?_) (by simp only [List.getElem?_toArray, List.getElem?_cons_succ, List.getElem?_cons_zero]; rfl) (by kernel_rfl) (by kernel_rfl) (by kernel_rfl) (fun _ _ _ h => h) (Or.inl ⟨by rfl, ?_⟩) (by assumption) ?_
        rotate_left 1
        · (intro w hSw; (try dsimp only at hSw); go_simp; try with_reducible rfl)
        try simp only [Act.put, List.setIfInBounds_toArray, List.set_cons_zero, List.set_cons_succ]
        refine wpAnyH_take (i := 4) (v := ?_) (by simp only [List.getElem?_toArray, List.getElem?_cons_succ, List.getElem?_cons_zero]; rfl) (by kernel_rfl) (by kernel_rfl) (by kernel_rfl) (fun _ _ _ h => h) (Or.inl ⟨by rfl, ?_⟩) (by assumption) ?_
        rotate_left 1
        · (intro w hSw; (try dsimp only at hSw); go_simp; try with_reducible rfl)
        try simp only [Act.put, List.setIfInBounds_toArray, List.set_cons_zero, List.set_cons_succ]
        refine wpAnyH_take (i := 5) (v := ?_) (by simp only [List.getElem?_toArray, List.getElem?_cons_succ, List.getElem?_cons_zero]; rfl) (by kernel_rfl) (by kernel_rfl) (by kernel_rfl) (fun _ _ _ h => h) (Or.inl ⟨by rfl, ?_⟩) (by assumption) ?_
        rotate_left 1
        · (intro w hSw; (try dsimp only at hSw); go_simp; try with_reducible rfl)
        try simp only [Act.put, List.setIfInBounds_toArray, List.set_cons_zero, List.set_cons_succ]
        refine wpAnyH_take (i := 6) (v := ?_) (by simp only [List.getElem?_toArray, List.getElem?_cons_succ, List.getElem?_cons_zero]; rfl) (by kernel_rfl) (by kernel_rfl) (by kernel_rfl) (fun _ _ _ h => h) (Or.inl ⟨by rfl, ?_⟩) (by assumption) ?_
        rotate_left 1
        · (intro w hSw; (try dsimp only at hSw); go_simp; try with_reducible rfl)
        try simp only [Act.put, List.setIfInBounds_toArray, List.set_cons_zero, List.set_cons_succ]
        refine wpAnyH_take (i := 10) (v := ?_) (by simp only [List.getElem?_toArray, List.getElem?_cons_succ, List.getElem?_cons_zero]; rfl) (by kernel_rfl) (by kernel_rfl) (by kernel_rfl) (fun _ _ _ h => h) (Or.inl ⟨by rfl, ?_⟩) (by assumption) ?_
        rotate_left 1
        · (intro w hSw; (try dsimp only at hSw); go_simp; try with_reducible rfl)
        try simp only [Act.put, List.setIfInBounds_toArray, List.set_cons_zero, List.set_cons_succ]
        refine wpAnyH_ready (rs := [7]) (by kernel_rfl) (by simp) ?_
        refine AllReadyH.cons (by simp only [List.getElem?_toArray, List.getElem?_cons_succ, List.getElem?_cons_zero]; rfl) (fun K hK => ?_) ?_
        rotate_left 1
        · exact AllReadyH.nil
        go_simp
        refine (W9.out w3.drew).mono ?_; rintro e w4 ⟨rfl, rfl⟩; go_wp2_with fail
        refine hK.out _ _ ?_ (fun hHeld2 => ?_)
        · ((try dsimp only) <;> (first | trivial | assumption | go_keep))
        clear hHeld
        have hHeld := hHeld2
        clear hHeld2 hK K
        try simp only [Act.put, List.setIfInBounds_toArray, List.set_cons_zero, List.set_cons_succ]
        refine wpAnyH_take (i := 8) (v := ?_) (by simp only [List.getElem?_toArray, List.getElem?_cons_succ, List.getElem?_cons_zero]; rfl) (by kernel_rfl) (by kernel_rfl) (by kernel_rfl) (fun _ _ _ h => h) (Or.inl ⟨by rfl, ?_⟩) (by assumption) ?_
        rotate_left 1
        · (intro w hSw; (try dsimp only at hSw); go_simp; try with_reducible rfl)
        try simp only [Act.put, List.setIfInBounds_toArray, List.set_cons_zero, List.set_cons_succ]
        refine wpAnyH_take (i := 9) (v := ?_) (by simp only [List.getElem?_toArray, List.getElem?_cons_succ, List.getElem?_cons_zero]; rfl) (by kernel_rfl) (by kernel_rfl) (by kernel_rfl) (fun _ _ _ h => h) (Or.inl ⟨by rfl, ?_⟩) (by assumption) ?_
        rotate_left 1
        · (intro w hSw; (try dsimp only at hSw); go_simp; try with_reducible rfl)
        try simp only [Act.put, List.setIfInBounds_toArray, List.set_cons_zero, List.set_cons_succ]
        refine wpAnyH_ready (rs := [11]) (by kernel_rfl) (by simp) ?_
        refine AllReadyH.cons (by simp only [List.getElem?_toArray, List.getElem?_cons_succ, List.getElem?_cons_zero]; rfl) (fun K hK => ?_) ?_
        rotate_left 1
        · exact AllReadyH.nil
        go_simp
        refine (IH2.out w3.drew (Below.refl _ _).drew).mono ?_; rintro e w4 ⟨A4, n4, c4, rfl, hrow, hb4⟩; have B4 := hide ((Below.refl w3.heap.size w3).drew.trans (hb4.mono (by simp))); have t3 := (K11.out.below B4.out).cell 0; have t4 := (K11.out.below B4.out).cell 1; have t5 := (K11.out.below B4.out).cell 2; have ROW := hide hrow; have hn4 := hrow.len; simp only [List.getElem?_toArray, List.getElem?_cons_succ, List.getElem?_cons_zero] at t3 t4 t5; clear hb4 hrow; go_wp2_with fail
        refine hK.out _ _ ?_ (fun hHeld2 => ?_)
        · ((try dsimp only) <;> (first | trivial | assumption | go_keep))
        clear hHeld
        have hHeld := hHeld2
        clear hHeld2 hK K
        try simp only [Act.put, List.setIfInBounds_toArray, List.set_cons_zero, List.set_cons_succ]
        have hlen4 := belowR_len l f2 p2
        rw [hn4] at hlen4
        have h17 : 17 ^ l ≤ 289 := Nat.le_trans (Nat.pow_le_pow_right (by decide) hl) (by decide)
        have M4 := hide (M3.out.below B4.out)
        have hlen5 : n ≤ 1 + i * 289 := by
          have h1 := M.out.row.len
          rw [← h1, List.length_cons, List.length_flatMap]
          have h2 : ∀ is : List Nat, (is.map fun i => (belowR l (first + i * 16 ^ l) ⟨p.root, p.metas ++ [-(first : Int) - (l : Int)], p.slots ++ [i]⟩).length).sum ≤ is.length * 289 := fun is => by
            induction is with
            | nil => simp
            | cons i is ih =>
              rw [List.map_cons, List.sum_cons, List.length_cons, Nat.succ_mul]
              have := belowR_len l (first + i * 16 ^ l) ⟨p.root, p.metas ++ [-(first : Int) - (l : Int)], p.slots ++ [i]⟩
              omega
          have h3 := h2 (List.range i)
          rw [List.length_range] at h3
          omega
        have hk6 : n + n4 ≤ 100000 := by
          have : i * 289 ≤ 16 * 289 := Nat.mul_le_mul (by omega) (Nat.le_refl _)
          omega
        clear hlen4 hlen5 h17 hn4
        refine wpAnyH_ready (rs := [12]) (by kernel_rfl) (by simp) ?_
        refine AllReadyH.cons (by simp only [List.getElem?_toArray, List.getElem?_cons_succ, List.getElem?_cons_zero]; rfl) (fun K hK => ?_) ?_
        rotate_left 1
        · exact AllReadyH.nil
        refine step_mapp (by rfl) (.tmp 50) (.tmp 61) (by rfl) (g5 + 1 + 1) _ A A4 n c n4 c4 _ _ (by rfl) (by rfl) M4.out.row ROW.out M4.out.b.2.2 hk6 ?_; intro A5 c5 w5 hrow5 hg5; obtain ⟨xs, hown⟩ := M4.out.row.own; have hne := (fun g (h : g < g5 + 1 + 1) (e : some g = (Value.slice A n c).ownBlock) => by have := (hown.lt g e.symm).1; omega : ∀ g, g < g5 + 1 + 1 → some g = (Value.slice A n c).ownBlock → False); obtain ⟨xs', hown'⟩ := M.out.row.own; have K5 := blk_gr (K11.out.below B4.out) hg5 (fun e => by have := (hown'.lt g10 e.symm).2; omega); have t6 := K5.cell 0; have t7 := K5.cell 1; have t8 := K5.cell 2; simp only [List.getElem?_toArray, List.getElem?_cons_succ, List.getElem?_cons_zero] at t6 t7 t8; have HG5 := hide hg5; have HROW5 := hide hrow5; have HOWN := hide hown; have HNE := hide hne; clear hg5 hrow5 hown hown' hne K5
        refine hK.out _ _ ?_ (fun hHeld2 => ?_)
        · ((try dsimp only) <;> (first | trivial | assumption | go_keep))
        clear hHeld
        have hHeld := hHeld2
        clear hHeld2 hK K
        try simp only [Act.put, List.setIfInBounds_toArray, List.set_cons_zero, List.set_cons_succ]
        refine wpAnyH_take (i := 13) (v := ?_) (by simp only [List.getElem?_toArray, List.getElem?_cons_succ, List.getElem?_cons_zero]; rfl) (by kernel_rfl) (by kernel_rfl) (by kernel_rfl) (fun _ _ _ h => h) (Or.inl ⟨by rfl, ?_⟩) (by assumption) ?_
        rotate_left 1
        · (intro w hSw; (try dsimp only at hSw); go_simp; try with_reducible rfl)
        try simp only [Act.put, List.setIfInBounds_toArray, List.set_cons_zero, List.set_cons_succ]
        refine wpAnyH_done (by kernel_rfl) ?_ _
        refine NoPanic.normal ?_
        have M5 := hide (show BelM w w5 g5 (g5 + 1) p.root p A1 c1 A2 c2 ⟨-(first : Int) - (l : Int), lev, first, p⟩ A5 (n + n4) c5 (⟨-(first : Int) - (l : Int), lev, first, p⟩ :: (List.range (i + 1)).flatMap fun i => belowR l (first + i * 16 ^ l) ⟨p.root, p.metas ++ [-(first : Int) - (l : Int)], p.slots ++ [i]⟩) from
          ⟨blk_gr M4.out.kP HG5.out (fun e => HNE.out g5 (by omega) e), blk_gr M4.out.kM HG5.out (fun e => HNE.out (g5 + 1) (by omega) e), rdI_gr M4.out.r1 HOWN.out HG5.out, rdI_gr M4.out.r2 HOWN.out HG5.out,
           by have := HROW5.out; rw [List.cons_append] at this; rw [List.range_succ, List.flatMap_append]; simpa [HF2.out, hp2] using this,
           ⟨M4.out.b.1, M4.out.b.2.1, Nat.le_trans M4.out.b.2.2 HG5.out.size⟩,
           bel_gr M4.out.bel HG5.out (fun g e => by have h1 := (HOWN.out.lt g e).1; have h2 := M4.out.b.1; omega) M4.out.bel.size⟩)
        clear t0 t1 t2 t3 t4 t5 t6 t7 t8 hHeld M4 HG5 HROW5 HOWN HNE
        go_wp2_with fail
        go_roundw
        case rel => exact ⟨i + 1, n + n4, c5, A5, by omega, rfl, by go_num, M5.out⟩
        case measure => simp [intOf]; omega
    · have hi16 : i = 16 := by omega
      have hfin : Hid (belowR lev first p = (⟨-(first : Int) - (l : Int), lev, first, p⟩ :: (List.range i).flatMap fun i => belowR l (first + i * 16 ^ l) ⟨p.root, p.metas ++ [-(first : Int) - (l : Int)], p.slots ++ [i]⟩)) := hide (by
        have hl' := HL.out
        clear HB hm M
        rw [hi16, hl']
        conv => lhs; unfold belowR
        rw [if_neg (by omega)])
      have hlt' : ¬ (i : Int) < 16 := by omega
      clear hi16 HB hm
      go_wp2_with fail
      go_ret
      refine ⟨A, n, c, rfl, ?_, M.out.bel⟩
      rw [hfin.out]
      exact M.out.row.base (by have := M.out.b.1; omega)
theorem below_any : ∀ (l : Nat), l ≤ 3 → ∀ (first : Nat) (p : PathL) (A1 : Option Addr) (c1 : Nat) (A2 : Option Addr) (c2 : Nat) (w : World), first ≤ 100000 → p.root ≤ 10 → p.metas.length + l ≤ 10 → p.slots.length + l ≤ 10 → RdI w A1 p.metas.length p.metas → RdI w A2 p.slots.length (natsI p.slots) →
      Calls Tryd.prog 32 #[.int .i64 (l : Int), .int .i64 (first : Int), .agg #[.int .i64 (p.root : Int), .slice A1 p.metas.length c1, .slice A2 p.slots.length c2]] w fun e w' =>
        ∃ A n c, e = .returned (.slice A n c) ∧ MRow w' w.heap.size A n c (belowR l first p) ∧ Below w.heap.size w w'
  | 0, hl, first, p, A1, c1, A2, c2, w, _, _, _, _, _, _ => by
    refine (below_nil 0 first hl (.inl rfl) undef w p.root A1 A2 _ c1 _ c2).mono ?_
    rintro e w' ⟨rfl, hb⟩
    exact ⟨none, 0, 0, rfl, by unfold belowR; exact MRow.nil, hb⟩
  | l + 1, hl, first, p, A1, c1, A2, c2, w, hf, hr, hm, hs, h1, h2 => by
    by_cases h6 : first < 600
    · exact below_step l (by omega) (fun first p A1 c1 A2 c2 w a b c d e f => below_any l (by omega) first p A1 c1 A2 c2 w a b c d e f) first p A1 c1 A2 c2 w h6 hr (by omega) (by omega) h1 h2
    · refine (below_nil (l + 1) first hl (.inr (by omega)) undef w p.root A1 A2 _ c1 _ c2).mono ?_
      rintro e w' ⟨rfl, hb⟩
      exact ⟨none, 0, 0, rfl, by unfold belowR; rw [if_pos (by omega)]; exact MRow.nil, hb⟩
end Go.Proofs.YtakflabokbaibaaDoor
