/- The walk of marllaw17.PointNewer. -/
import Derived.Test.YtfaingklglelnaaPtAwake
import Derived.Test.YtfaingklglelnaaPtArg
namespace Go.Proofs.Ytfaingklglelnaa
open Go.RowKit
attribute [local go_sem ↓] Go.wp_at_zero Go.wp_at_succ

theorem newP_not {e c e' c' : Int} (h : newP e c e' c' = true) : newP e' c' e c = false := by
  unfold newP at *
  rw [decide_eq_true_iff] at h
  rw [decide_eq_false_iff_not]
  omega
theorem newP_self (e c : Int) : newP e c e c = false := by
  unfold newP
  rw [decide_eq_false_iff_not]
  omega
theorem newP_trans {a b c d e f : Int} (h : newP a b c d = true) (h' : newP c d e f = true) : newP a b e f = true := by
  unfold newP at *
  rw [decide_eq_true_iff] at *
  omega
/-- A point's value. -/
def PtF (e c n f : Int) (v : Value) (_ : World) : Prop := v = ptV e c n f
theorem ptF_ok (i d : Nat) (eat reads : List Nat) (base : Nat) (e c n f : Int) : CO.Ok ⟨i, d, eat, reads, PtF e c n f⟩ base :=
  ⟨fun _ _ _ _ h _ _ => h, fun v w h g hg => by rw [h] at hg; simp [vbs, vb1] at hg⟩
def BoolF (z : Bool) (v : Value) (_ : World) : Prop := v = .bool z
theorem boolF_ok (i d : Nat) (eat reads : List Nat) (base : Nat) (z : Bool) : CO.Ok ⟨i, d, eat, reads, BoolF z⟩ base :=
  ⟨fun _ _ _ _ h _ _ => h, fun v w h g hg => by rw [h] at hg; cases hg⟩
/-- Three boxed points. -/
structure Bx3 (w : World) (g : Nat) (e c n f e' c' n' f' a b s t : Int) : Prop where
  b0 : Blk w g 23 (ptC e c n f)
  b1 : Blk w (g + 1) 23 (ptC e' c' n' f')
  b2 : Blk w (g + 1 + 1) 23 (ptC a b s t)
theorem Bx3.below {w w' : World} {g : Nat} {e c n f e' c' n' f' a b s t : Int} (h : Bx3 w g e c n f e' c' n' f' a b s t) (hb : Below w.heap.size w w') : Bx3 w' g e c n f e' c' n' f' a b s t := ⟨h.b0.below hb, h.b1.below hb, h.b2.below hb⟩
theorem bx3_new (w : World) (e c n f e' c' n' f' a b s t : Int) : Bx3 (((w.alloc (.cells (ptC e c n f) 23)).alloc (.cells (ptC e' c' n' f') 23)).alloc (.cells (ptC a b s t) 23)) w.heap.size e c n f e' c' n' f' a b s t := by
  refine ⟨((Blk.new _ _ _).alloc _).alloc _, ?_, ?_⟩
  · have := (Blk.new (w.alloc (.cells (ptC e c n f) 23)) 23 (ptC e' c' n' f')).alloc (.cells (ptC a b s t) 23)
    rwa [World.size_alloc] at this
  · have := Blk.new ((w.alloc (.cells (ptC e c n f) 23)).alloc (.cells (ptC e' c' n' f') 23)) 23 (ptC a b s t)
    rwa [World.size_alloc, World.size_alloc] at this

set_option maxHeartbeats 4000000 in
set_option maxRecDepth 100000 in
theorem newer_all (e c n f e' c' n' f' a b s t : Int) (w : World) :
    Calls Try.prog 4 #[ptV e c n f, ptV e' c' n' f', ptV a b s t] w fun r w' => r = .returned (.bool true) ∧ Below w.heap.size w w' := by
  obtain ⟨x, hx⟩ : ∃ x, x = newP e c e' c' := ⟨_, rfl⟩
  obtain ⟨y, hy⟩ : ∃ x, x = newP e' c' e c := ⟨_, rfl⟩
  obtain ⟨z, hz⟩ : ∃ x, x = newP e' c' a b := ⟨_, rfl⟩
  obtain ⟨u, hu⟩ : ∃ x, x = newP e c a b := ⟨_, rfl⟩
  have hxy : x = true → y = false := fun h => by rw [hy]; exact newP_not (by rw [← hx]; exact h)
  have hxz : x = true → z = true → u = true := fun h h' => by rw [hu]; exact newP_trans (by rw [← hx]; exact h) (by rw [← hz]; exact h')
  have HX := hide hx
  have HY := hide hy
  have HZ := hide hz
  have HU := hide hu
  have HS := hide (newP_self e c)
  have HXY : Hid (x = false ∨ y = false) := hide (by cases x; exact .inl rfl; exact .inr (hxy rfl))
  have HXZ : Hid (x = false ∨ z = false ∨ u = true) := hide (by cases x; exact .inl rfl; cases z; exact .inr (.inl rfl); exact .inr (.inr (hxz rfl rfl)))
  clear hx hy hz hu hxy hxz
  go_enter Try.func4, Try.ntmps4
  go_wp2_with fail
  have K1 := bx3_new w e c n f e' c' n' f' a b s t
  have B1 : Below w.heap.size w (((w.alloc (.cells (ptC e c n f) 23)).alloc (.cells (ptC e' c' n' f') 23)).alloc (.cells (ptC a b s t) 23)) := (((Below.refl _ _).alloc (Nat.le_refl _) _).alloc (by simp) _).alloc (by simp; omega) _
  refine (awake17 _).mono ?_
  rintro r w1 ⟨rfl, hb⟩
  replace K1 := hide (K1.below hb)
  replace B1 := hide (B1.trans (hb.mono B1.size))
  clear hb
  go_wp2_with fail
  have CC := hide (fun (w' : World) (hb : Below w1.heap.size w1 w') => show w'.cell? ⟨w.heap.size, 0, none⟩ = some (.int .i64 e) ∧ w'.cell? ⟨w.heap.size, 1, none⟩ = some (.int .i64 c) ∧ w'.cell? ⟨w.heap.size, 2, none⟩ = some (.int .i64 n) ∧ w'.cell? ⟨w.heap.size, 3, none⟩ = some (.int .i64 f) ∧ w'.cell? ⟨w.heap.size + 1, 0, none⟩ = some (.int .i64 e') ∧ w'.cell? ⟨w.heap.size + 1, 1, none⟩ = some (.int .i64 c') ∧ w'.cell? ⟨w.heap.size + 1, 2, none⟩ = some (.int .i64 n') ∧ w'.cell? ⟨w.heap.size + 1, 3, none⟩ = some (.int .i64 f') from
    ⟨(K1.out.below hb).b0.cell 0, (K1.out.below hb).b0.cell 1, (K1.out.below hb).b0.cell 2, (K1.out.below hb).b0.cell 3, (K1.out.below hb).b1.cell 0, (K1.out.below hb).b1.cell 1, (K1.out.below hb).b1.cell 2, (K1.out.below hb).b1.cell 3⟩)
  have s0 := CC.out _ (Below.refl _ _).drew
  refine wp_region_noPanic ?_
  refine wp_region_held_drew (S := (fun w' => w'.cell? ⟨w.heap.size, 0, none⟩ = some (.int .i64 e) ∧ w'.cell? ⟨w.heap.size, 1, none⟩ = some (.int .i64 c) ∧ w'.cell? ⟨w.heap.size, 2, none⟩ = some (.int .i64 n) ∧ w'.cell? ⟨w.heap.size, 3, none⟩ = some (.int .i64 f) ∧ w'.cell? ⟨w.heap.size + 1, 0, none⟩ = some (.int .i64 e') ∧ w'.cell? ⟨w.heap.size + 1, 1, none⟩ = some (.int .i64 c') ∧ w'.cell? ⟨w.heap.size + 1, 2, none⟩ = some (.int .i64 n') ∧ w'.cell? ⟨w.heap.size + 1, 3, none⟩ = some (.int .i64 f'))) (by kernel_rfl) ?_ (fun hHeld => ?_)
  · ((try dsimp only) <;> (first | trivial | assumption | go_keep))
  clear s0
  have BW := hide ((Below.refl w1.heap.size w1).drew)
  have ws : Hid (w1.heap.size ≤ w1.drew.heap.size) := hide (Nat.le_refl _)
  generalize w1.drew = w2 at *
  refine wpAnyH_take (i := 0) (v := ?_) (by simp only [List.getElem?_toArray, List.getElem?_cons_succ, List.getElem?_cons_zero]; rfl) (by kernel_rfl) (by kernel_rfl) (by kernel_rfl) (fun _ _ _ h => h) (Or.inl ⟨by rfl, ?_⟩) (by assumption) ?_
  rotate_left 1
  · (intro w hSw; (try dsimp only at hSw); go_simp; try with_reducible rfl)
  try simp only [Act.put, List.setIfInBounds_toArray, List.set_cons_zero, List.set_cons_succ]
  refine wpAnyH_take (i := 1) (v := ?_) (by simp only [List.getElem?_toArray, List.getElem?_cons_succ, List.getElem?_cons_zero]; rfl) (by kernel_rfl) (by kernel_rfl) (by kernel_rfl) (fun _ _ _ h => h) (Or.inl ⟨by rfl, ?_⟩) (by assumption) ?_
  rotate_left 1
  · (intro w hSw; (try dsimp only at hSw); go_simp; try with_reducible rfl)
  try simp only [Act.put, List.setIfInBounds_toArray, List.set_cons_zero, List.set_cons_succ]
  refine wpAnyH_take (i := 3) (v := ?_) (by simp only [List.getElem?_toArray, List.getElem?_cons_succ, List.getElem?_cons_zero]; rfl) (by kernel_rfl) (by kernel_rfl) (by kernel_rfl) (fun _ _ _ h => h) (Or.inl ⟨by rfl, ?_⟩) (by assumption) ?_
  rotate_left 1
  · (intro w hSw; (try dsimp only at hSw); go_simp; try with_reducible rfl)
  try simp only [Act.put, List.setIfInBounds_toArray, List.set_cons_zero, List.set_cons_succ]
  refine wpAnyH_take (i := 5) (v := ?_) (by simp only [List.getElem?_toArray, List.getElem?_cons_succ, List.getElem?_cons_zero]; rfl) (by kernel_rfl) (by kernel_rfl) (by kernel_rfl) (fun _ _ _ h => h) (Or.inl ⟨by rfl, ?_⟩) (by assumption) ?_
  rotate_left 1
  · (intro w hSw; (try dsimp only at hSw); go_simp; try with_reducible rfl)
  try simp only [Act.put, List.setIfInBounds_toArray, List.set_cons_zero, List.set_cons_succ]
  refine region_rows (fuel := 16) (w0 := w2) (base := w2.heap.size) (stop := 8) (C := [⟨2, 11, [], [], BoolF (newP e c e' c')⟩, ⟨4, 13, [], [], PtF e c n f⟩, ⟨6, 15, [], [], PtF e' c' n' f'⟩, ⟨7, 16, [], [4, 6], BoolF (newP e c e' c')⟩])
    (ok_of_cd (by kernel_rfl)) ?hok ?hst ?hS (Below.refl _ _) (Nat.le_refl _) ?hend
  case hok =>
    intro y hy
    simp only [List.mem_cons, List.not_mem_nil, or_false] at hy
    rcases hy with rfl | rfl | rfl | rfl
    · exact boolF_ok _ _ _ _ _ _
    · exact ptF_ok _ _ _ _ _ _ _ _ _
    · exact ptF_ok _ _ _ _ _ _ _ _ _
    · exact boolF_ok _ _ _ _ _ _
  case hS =>
    intro w' hb _
    exact CC.out w' (BW.out.trans (hb.mono ws.out))
  case hst =>
    intro y hy
    simp only [List.mem_cons, List.not_mem_nil, or_false] at hy
    rcases hy with rfl | rfl | rfl | rfl
    · exact CO.step_call (by simp only [List.getElem?_toArray, List.getElem?_cons_succ, List.getElem?_cons_zero]; rfl) (want_none (by rfl)) (by rfl) Try.func17 (by kernel_rfl) (by rfl) #[.tmp 9, .tmp 10] _ (by rfl) (fun a w' e1 e2 e3 e4 => by
        have v1 : a.tmps.getD 9 undef = ptV e c n f := (e3 9 (by intro z hz; simp only [List.mem_cons, List.not_mem_nil, or_false] at hz; rcases hz with rfl | rfl | rfl | rfl <;> simp)).trans (by rfl)
        have v2 : a.tmps.getD 10 undef = ptV e' c' n' f' := (e3 10 (by intro z hz; simp only [List.mem_cons, List.not_mem_nil, or_false] at hz; rcases hz with rfl | rfl | rfl | rfl <;> simp)).trans (by rfl)
        simp only [List.map_toArray, List.map_cons, List.map_nil, Act.eval, v1, v2]
        refine (newer_any e c n f e' c' n' f' w').mono ?_
        rintro r w3 ⟨rfl, hb⟩
        exact ⟨_, rfl, rfl, hb, fun g hg => by cases hg⟩)
    · exact CO.step_call (by simp only [List.getElem?_toArray, List.getElem?_cons_succ, List.getElem?_cons_zero]; rfl) (want_none (by rfl)) (by rfl) Try.func12 (by kernel_rfl) (by rfl) #[.tmp 12] _ (by rfl) (fun a w' e1 e2 e3 e4 => by
        have v1 : a.tmps.getD 12 undef = ptV e c n f := (e3 12 (by intro z hz; simp only [List.mem_cons, List.not_mem_nil, or_false] at hz; rcases hz with rfl | rfl | rfl | rfl <;> simp)).trans (by rfl)
        simp only [List.map_toArray, List.map_cons, List.map_nil, Act.eval, v1]
        refine (pref_any e c n f w').mono ?_
        rintro r w3 ⟨rfl, hb⟩
        exact ⟨_, rfl, rfl, hb, fun g hg => by simp [vbs, vb1] at hg⟩)
    · exact CO.step_call (by simp only [List.getElem?_toArray, List.getElem?_cons_succ, List.getElem?_cons_zero]; rfl) (want_none (by rfl)) (by rfl) Try.func12 (by kernel_rfl) (by rfl) #[.tmp 14] _ (by rfl) (fun a w' e1 e2 e3 e4 => by
        have v1 : a.tmps.getD 14 undef = ptV e' c' n' f' := (e3 14 (by intro z hz; simp only [List.mem_cons, List.not_mem_nil, or_false] at hz; rcases hz with rfl | rfl | rfl | rfl <;> simp)).trans (by rfl)
        simp only [List.map_toArray, List.map_cons, List.map_nil, Act.eval, v1]
        refine (pref_any e' c' n' f' w').mono ?_
        rintro r w3 ⟨rfl, hb⟩
        exact ⟨_, rfl, rfl, hb, fun g hg => by simp [vbs, vb1] at hg⟩)
    · exact CO.step_call (by simp only [List.getElem?_toArray, List.getElem?_cons_succ, List.getElem?_cons_zero]; rfl) (want_none (by rfl)) (by rfl) Try.func18 (by kernel_rfl) (by rfl) #[.tmp 13, .tmp 15] _ (by rfl) (fun a w' e1 e2 e3 e4 => by
        have v1 : a.tmps.getD 13 undef = ptV e c n f := e4 ⟨4, 13, [], [], PtF e c n f⟩ (by simp) (by simp)
        have v2 : a.tmps.getD 15 undef = ptV e' c' n' f' := e4 ⟨6, 15, [], [], PtF e' c' n' f'⟩ (by simp) (by simp)
        simp only [List.map_toArray, List.map_cons, List.map_nil, Act.eval, v1, v2]
        refine (rnewer_any e c n f e' c' n' f' w').mono ?_
        rintro r w3 ⟨rfl, hb⟩
        exact ⟨_, rfl, rfl, hb, fun g hg => by cases hg⟩)
  case hend =>
    intro vals w3 hb3 hs3 hF hap
    have f2 := hF ⟨2, 11, [], [], BoolF (newP e c e' c')⟩ (by simp) (by simp)
    have f4 := hF ⟨4, 13, [], [], PtF e c n f⟩ (by simp) (by simp)
    have f6 := hF ⟨6, 15, [], [], PtF e' c' n' f'⟩ (by simp) (by simp)
    have f7 := hF ⟨7, 16, [], [4, 6], BoolF (newP e c e' c')⟩ (by simp) (by simp)
    clear hF hap
    simp only [BoolF, PtF] at f2 f4 f6 f7
    simp only [List.foldl_cons, List.foldl_nil, f2, f4, f6, f7]
    clear f2 f4 f6 f7
    simp only [Act.put, List.setIfInBounds_toArray, List.set_cons_zero, List.set_cons_succ]
    rw [← HX.out]
    have B3 := hide (BW.out.trans (hb3.mono ws.out))
    replace hHeld := CC.out w3 B3.out
    clear hb3 hs3
    have hxx : (x != x) = false := bne_self_eq_false x
    refine wpAnyH_ready (rs := [8]) (by kernel_rfl) (by simp) ?_
    refine AllReadyH.cons (by simp only [List.getElem?_toArray, List.getElem?_cons_succ, List.getElem?_cons_zero]; rfl) (fun K hK => ?_) ?_
    rotate_left 1
    · exact AllReadyH.nil
    go_simp
    refine hK.out _ _ ?_ (fun hHeld2 => ?_)
    · ((try dsimp only) <;> (first | trivial | assumption | go_keep))
    clear hHeld
    have hHeld := hHeld2
    clear hHeld2 hK K
    try simp only [Act.put, List.setIfInBounds_toArray, List.set_cons_zero, List.set_cons_succ]
    clear hxx
    refine wpAnyH_take (i := 9) (v := ?_) (by simp only [List.getElem?_toArray, List.getElem?_cons_succ, List.getElem?_cons_zero]; rfl) (by kernel_rfl) (by kernel_rfl) (by kernel_rfl) (fun _ _ _ h => h) (Or.inl ⟨by rfl, ?_⟩) (by assumption) ?_
    rotate_left 1
    · (intro w hSw; (try dsimp only at hSw); go_simp; try with_reducible rfl)
    try simp only [Act.put, List.setIfInBounds_toArray, List.set_cons_zero, List.set_cons_succ]
    rcases x with _ | _
    · skip
      refine wpAnyH_take (i := 10) (v := ?_) (by simp only [List.getElem?_toArray, List.getElem?_cons_succ, List.getElem?_cons_zero]; rfl) (by kernel_rfl) (by kernel_rfl) (by kernel_rfl) (fun _ _ _ h => h) (Or.inl ⟨by rfl, ?_⟩) (by assumption) ?_
      rotate_left 1
      · (intro w hSw; (try dsimp only at hSw); go_simp; try with_reducible rfl)
      try simp only [Act.put, List.setIfInBounds_toArray, List.set_cons_zero, List.set_cons_succ]
      refine wpAnyH_take (i := 11) (v := ?_) (by simp only [List.getElem?_toArray, List.getElem?_cons_succ, List.getElem?_cons_zero]; rfl) (by kernel_rfl) (by kernel_rfl) (by kernel_rfl) (fun _ _ _ h => h) (Or.inl ⟨by rfl, ?_⟩) (by assumption) ?_
      rotate_left 1
      · (intro w hSw; (try dsimp only at hSw); go_simp; try with_reducible rfl)
      try simp only [Act.put, List.setIfInBounds_toArray, List.set_cons_zero, List.set_cons_succ]
      refine wpAnyH_ready (rs := [12]) (by kernel_rfl) (by simp) ?_
      refine AllReadyH.cons (by simp only [List.getElem?_toArray, List.getElem?_cons_succ, List.getElem?_cons_zero]; rfl) (fun K hK => ?_) ?_
      rotate_left 1
      · exact AllReadyH.nil
      go_simp
      refine (newer_any e c n f e' c' n' f' w3).mono ?_; rintro r w4 ⟨rfl, hb⟩; rw [← HX.out]; have B4 := hide (B3.out.trans (hb.mono B3.out.size)); clear hb; go_wp2_with fail
      refine hK.out _ _ ?_ (fun hHeld2 => ?_)
      · ((try dsimp only) <;> (exact CC.out _ B4.out))
      clear hHeld
      have hHeld := hHeld2
      clear hHeld2 hK K
      try simp only [Act.put, List.setIfInBounds_toArray, List.set_cons_zero, List.set_cons_succ]
      refine wpAnyH_take (i := 13) (v := ?_) (by simp only [List.getElem?_toArray, List.getElem?_cons_succ, List.getElem?_cons_zero]; rfl) (by kernel_rfl) (by kernel_rfl) (by kernel_rfl) (fun _ _ _ h => h) (Or.inl ⟨by rfl, ?_⟩) (by assumption) ?_
      rotate_left 1
      · (intro w hSw; (try dsimp only at hSw); go_simp; try with_reducible rfl)
      try simp only [Act.put, List.setIfInBounds_toArray, List.set_cons_zero, List.set_cons_succ]
      refine wpAnyH_take (i := 14) (v := undef) (by simp only [List.getElem?_toArray, List.getElem?_cons_succ, List.getElem?_cons_zero]; rfl) (by kernel_rfl) (by kernel_rfl) (by kernel_rfl) (fun _ _ _ h => h) (Or.inr ⟨by rfl, rfl⟩) (by assumption) ?_
      try simp only [Act.put, List.setIfInBounds_toArray, List.set_cons_zero, List.set_cons_succ]
      refine wpAnyH_take (i := 15) (v := undef) (by simp only [List.getElem?_toArray, List.getElem?_cons_succ, List.getElem?_cons_zero]; rfl) (by kernel_rfl) (by kernel_rfl) (by kernel_rfl) (fun _ _ _ h => h) (Or.inr ⟨by rfl, rfl⟩) (by assumption) ?_
      try simp only [Act.put, List.setIfInBounds_toArray, List.set_cons_zero, List.set_cons_succ]
      refine wpAnyH_take (i := 16) (v := undef) (by simp only [List.getElem?_toArray, List.getElem?_cons_succ, List.getElem?_cons_zero]; rfl) (by kernel_rfl) (by kernel_rfl) (by kernel_rfl) (fun _ _ _ h => h) (Or.inr ⟨by rfl, rfl⟩) (by assumption) ?_
      try simp only [Act.put, List.setIfInBounds_toArray, List.set_cons_zero, List.set_cons_succ]
      refine wpAnyH_take (i := 17) (v := ?_) (by simp only [List.getElem?_toArray, List.getElem?_cons_succ, List.getElem?_cons_zero]; rfl) (by kernel_rfl) (by kernel_rfl) (by kernel_rfl) (fun _ _ _ h => h) (Or.inl ⟨by rfl, ?_⟩) (by assumption) ?_
      rotate_left 1
      · (intro w hSw; (try dsimp only at hSw); go_simp; try with_reducible rfl)
      try simp only [Act.put, List.setIfInBounds_toArray, List.set_cons_zero, List.set_cons_succ]
      refine wpAnyH_take (i := 18) (v := ?_) (by simp only [List.getElem?_toArray, List.getElem?_cons_succ, List.getElem?_cons_zero]; rfl) (by kernel_rfl) (by kernel_rfl) (by kernel_rfl) (fun _ _ _ h => h) (Or.inl ⟨by rfl, ?_⟩) (by assumption) ?_
      rotate_left 1
      · (intro w hSw; (try dsimp only at hSw); go_simp; try with_reducible rfl)
      try simp only [Act.put, List.setIfInBounds_toArray, List.set_cons_zero, List.set_cons_succ]
      refine wpAnyH_take (i := 19) (v := ?_) (by simp only [List.getElem?_toArray, List.getElem?_cons_succ, List.getElem?_cons_zero]; rfl) (by kernel_rfl) (by kernel_rfl) (by kernel_rfl) (fun _ _ _ h => h) (Or.inl ⟨by rfl, ?_⟩) (by assumption) ?_
      rotate_left 1
      · (intro w hSw; (try dsimp only at hSw); go_simp; try with_reducible rfl)
      try simp only [Act.put, List.setIfInBounds_toArray, List.set_cons_zero, List.set_cons_succ]
      refine wpAnyH_take (i := 20) (v := ?_) (by simp only [List.getElem?_toArray, List.getElem?_cons_succ, List.getElem?_cons_zero]; rfl) (by kernel_rfl) (by kernel_rfl) (by kernel_rfl) (fun _ _ _ h => h) (Or.inl ⟨by rfl, ?_⟩) (by assumption) ?_
      rotate_left 1
      · (intro w hSw; (try dsimp only at hSw); go_simp; try with_reducible rfl)
      try simp only [Act.put, List.setIfInBounds_toArray, List.set_cons_zero, List.set_cons_succ]
      refine wpAnyH_take (i := 21) (v := ?_) (by simp only [List.getElem?_toArray, List.getElem?_cons_succ, List.getElem?_cons_zero]; rfl) (by kernel_rfl) (by kernel_rfl) (by kernel_rfl) (fun _ _ _ h => h) (Or.inl ⟨by rfl, ?_⟩) (by assumption) ?_
      rotate_left 1
      · (intro w hSw; (try dsimp only at hSw); go_simp; try with_reducible rfl)
      try simp only [Act.put, List.setIfInBounds_toArray, List.set_cons_zero, List.set_cons_succ]
      refine wpAnyH_ready (rs := [22]) (by kernel_rfl) (by simp) ?_
      refine AllReadyH.cons (by simp only [List.getElem?_toArray, List.getElem?_cons_succ, List.getElem?_cons_zero]; rfl) (fun K hK => ?_) ?_
      rotate_left 1
      · exact AllReadyH.nil
      go_simp
      refine (newer_any e c n f e c n f _).mono ?_; rintro r w6 ⟨rfl, hb⟩; rw [HS.out]; have B6 := hide (B4.out.trans (hb.mono B4.out.size)); clear hb; go_wp2_with fail
      refine hK.out _ _ ?_ (fun hHeld2 => ?_)
      · ((try dsimp only) <;> (exact CC.out _ B6.out))
      clear hHeld
      have hHeld := hHeld2
      clear hHeld2 hK K
      try simp only [Act.put, List.setIfInBounds_toArray, List.set_cons_zero, List.set_cons_succ]
      refine wpAnyH_take (i := 23) (v := ?_) (by simp only [List.getElem?_toArray, List.getElem?_cons_succ, List.getElem?_cons_zero]; rfl) (by kernel_rfl) (by kernel_rfl) (by kernel_rfl) (fun _ _ _ h => h) (Or.inl ⟨by rfl, ?_⟩) (by assumption) ?_
      rotate_left 1
      · (intro w hSw; (try dsimp only at hSw); go_simp; try with_reducible rfl)
      try simp only [Act.put, List.setIfInBounds_toArray, List.set_cons_zero, List.set_cons_succ]
      refine wpAnyH_done (by kernel_rfl) ?_ _
      refine NoPanic.normal ?_
      have K6 := hide (K1.out.below B6.out)
      obtain ⟨c0, c1, c2, c3⟩ := ptb4 K6.out.b0
      obtain ⟨d0, d1, d2, d3⟩ := ptb4 K6.out.b1
      go_wp2_with fail
      clear c0 c1 c2 c3 d0 d1 d2 d3 hHeld
      refine (newer_any e c n f e' c' n' f' w6).mono ?_
      rintro r w7 ⟨rfl, hb⟩
      rw [← HX.out]
      have B7 := hide (B6.out.trans (hb.mono B6.out.size))
      clear hb
      go_wp2_with fail
      go_ret
      exact ⟨rfl, B1.out.trans (B7.out.mono B1.out.size)⟩
    · skip
      refine wpAnyH_take (i := 10) (v := ?_) (by simp only [List.getElem?_toArray, List.getElem?_cons_succ, List.getElem?_cons_zero]; rfl) (by kernel_rfl) (by kernel_rfl) (by kernel_rfl) (fun _ _ _ h => h) (Or.inl ⟨by rfl, ?_⟩) (by assumption) ?_
      rotate_left 1
      · (intro w hSw; (try dsimp only at hSw); go_simp; try with_reducible rfl)
      try simp only [Act.put, List.setIfInBounds_toArray, List.set_cons_zero, List.set_cons_succ]
      refine wpAnyH_take (i := 11) (v := ?_) (by simp only [List.getElem?_toArray, List.getElem?_cons_succ, List.getElem?_cons_zero]; rfl) (by kernel_rfl) (by kernel_rfl) (by kernel_rfl) (fun _ _ _ h => h) (Or.inl ⟨by rfl, ?_⟩) (by assumption) ?_
      rotate_left 1
      · (intro w hSw; (try dsimp only at hSw); go_simp; try with_reducible rfl)
      try simp only [Act.put, List.setIfInBounds_toArray, List.set_cons_zero, List.set_cons_succ]
      refine wpAnyH_ready (rs := [12]) (by kernel_rfl) (by simp) ?_
      refine AllReadyH.cons (by simp only [List.getElem?_toArray, List.getElem?_cons_succ, List.getElem?_cons_zero]; rfl) (fun K hK => ?_) ?_
      rotate_left 1
      · exact AllReadyH.nil
      go_simp
      refine (newer_any e c n f e' c' n' f' w3).mono ?_; rintro r w4 ⟨rfl, hb⟩; rw [← HX.out]; have B4 := hide (B3.out.trans (hb.mono B3.out.size)); clear hb; go_wp2_with fail
      refine hK.out _ _ ?_ (fun hHeld2 => ?_)
      · ((try dsimp only) <;> (exact CC.out _ B4.out))
      clear hHeld
      have hHeld := hHeld2
      clear hHeld2 hK K
      try simp only [Act.put, List.setIfInBounds_toArray, List.set_cons_zero, List.set_cons_succ]
      refine wpAnyH_take (i := 13) (v := ?_) (by simp only [List.getElem?_toArray, List.getElem?_cons_succ, List.getElem?_cons_zero]; rfl) (by kernel_rfl) (by kernel_rfl) (by kernel_rfl) (fun _ _ _ h => h) (Or.inl ⟨by rfl, ?_⟩) (by assumption) ?_
      rotate_left 1
      · (intro w hSw; (try dsimp only at hSw); go_simp; try with_reducible rfl)
      try simp only [Act.put, List.setIfInBounds_toArray, List.set_cons_zero, List.set_cons_succ]
      refine wpAnyH_take (i := 14) (v := ?_) (by simp only [List.getElem?_toArray, List.getElem?_cons_succ, List.getElem?_cons_zero]; rfl) (by kernel_rfl) (by kernel_rfl) (by kernel_rfl) (fun _ _ _ h => h) (Or.inl ⟨by rfl, ?_⟩) (by assumption) ?_
      rotate_left 1
      · (intro w hSw; (try dsimp only at hSw); go_simp; try with_reducible rfl)
      try simp only [Act.put, List.setIfInBounds_toArray, List.set_cons_zero, List.set_cons_succ]
      refine wpAnyH_take (i := 15) (v := ?_) (by simp only [List.getElem?_toArray, List.getElem?_cons_succ, List.getElem?_cons_zero]; rfl) (by kernel_rfl) (by kernel_rfl) (by kernel_rfl) (fun _ _ _ h => h) (Or.inl ⟨by rfl, ?_⟩) (by assumption) ?_
      rotate_left 1
      · (intro w hSw; (try dsimp only at hSw); go_simp; try with_reducible rfl)
      try simp only [Act.put, List.setIfInBounds_toArray, List.set_cons_zero, List.set_cons_succ]
      refine wpAnyH_ready (rs := [16]) (by kernel_rfl) (by simp) ?_
      refine AllReadyH.cons (by simp only [List.getElem?_toArray, List.getElem?_cons_succ, List.getElem?_cons_zero]; rfl) (fun K hK => ?_) ?_
      rotate_left 1
      · exact AllReadyH.nil
      go_simp
      refine (newer_any e' c' n' f' e c n f w4).mono ?_; rintro r w5 ⟨rfl, hb⟩; rw [← HY.out, (show y = false from HXY.out.elim (fun h => by cases h) id)]; have B5 := hide (B4.out.trans (hb.mono B4.out.size)); clear hb; go_wp2_with fail
      refine hK.out _ _ ?_ (fun hHeld2 => ?_)
      · ((try dsimp only) <;> (exact CC.out _ B5.out))
      clear hHeld
      have hHeld := hHeld2
      clear hHeld2 hK K
      try simp only [Act.put, List.setIfInBounds_toArray, List.set_cons_zero, List.set_cons_succ]
      refine wpAnyH_take (i := 17) (v := ?_) (by simp only [List.getElem?_toArray, List.getElem?_cons_succ, List.getElem?_cons_zero]; rfl) (by kernel_rfl) (by kernel_rfl) (by kernel_rfl) (fun _ _ _ h => h) (Or.inl ⟨by rfl, ?_⟩) (by assumption) ?_
      rotate_left 1
      · (intro w hSw; (try dsimp only at hSw); go_simp; try with_reducible rfl)
      try simp only [Act.put, List.setIfInBounds_toArray, List.set_cons_zero, List.set_cons_succ]
      refine wpAnyH_take (i := 18) (v := ?_) (by simp only [List.getElem?_toArray, List.getElem?_cons_succ, List.getElem?_cons_zero]; rfl) (by kernel_rfl) (by kernel_rfl) (by kernel_rfl) (fun _ _ _ h => h) (Or.inl ⟨by rfl, ?_⟩) (by assumption) ?_
      rotate_left 1
      · (intro w hSw; (try dsimp only at hSw); go_simp; try with_reducible rfl)
      try simp only [Act.put, List.setIfInBounds_toArray, List.set_cons_zero, List.set_cons_succ]
      refine wpAnyH_take (i := 19) (v := ?_) (by simp only [List.getElem?_toArray, List.getElem?_cons_succ, List.getElem?_cons_zero]; rfl) (by kernel_rfl) (by kernel_rfl) (by kernel_rfl) (fun _ _ _ h => h) (Or.inl ⟨by rfl, ?_⟩) (by assumption) ?_
      rotate_left 1
      · (intro w hSw; (try dsimp only at hSw); go_simp; try with_reducible rfl)
      try simp only [Act.put, List.setIfInBounds_toArray, List.set_cons_zero, List.set_cons_succ]
      refine wpAnyH_take (i := 20) (v := ?_) (by simp only [List.getElem?_toArray, List.getElem?_cons_succ, List.getElem?_cons_zero]; rfl) (by kernel_rfl) (by kernel_rfl) (by kernel_rfl) (fun _ _ _ h => h) (Or.inl ⟨by rfl, ?_⟩) (by assumption) ?_
      rotate_left 1
      · (intro w hSw; (try dsimp only at hSw); go_simp; try with_reducible rfl)
      try simp only [Act.put, List.setIfInBounds_toArray, List.set_cons_zero, List.set_cons_succ]
      refine wpAnyH_take (i := 21) (v := ?_) (by simp only [List.getElem?_toArray, List.getElem?_cons_succ, List.getElem?_cons_zero]; rfl) (by kernel_rfl) (by kernel_rfl) (by kernel_rfl) (fun _ _ _ h => h) (Or.inl ⟨by rfl, ?_⟩) (by assumption) ?_
      rotate_left 1
      · (intro w hSw; (try dsimp only at hSw); go_simp; try with_reducible rfl)
      try simp only [Act.put, List.setIfInBounds_toArray, List.set_cons_zero, List.set_cons_succ]
      refine wpAnyH_ready (rs := [22]) (by kernel_rfl) (by simp) ?_
      refine AllReadyH.cons (by simp only [List.getElem?_toArray, List.getElem?_cons_succ, List.getElem?_cons_zero]; rfl) (fun K hK => ?_) ?_
      rotate_left 1
      · exact AllReadyH.nil
      go_simp
      refine (newer_any e c n f e c n f _).mono ?_; rintro r w6 ⟨rfl, hb⟩; rw [HS.out]; have B6 := hide (B5.out.trans (hb.mono B5.out.size)); clear hb; go_wp2_with fail
      refine hK.out _ _ ?_ (fun hHeld2 => ?_)
      · ((try dsimp only) <;> (exact CC.out _ B6.out))
      clear hHeld
      have hHeld := hHeld2
      clear hHeld2 hK K
      try simp only [Act.put, List.setIfInBounds_toArray, List.set_cons_zero, List.set_cons_succ]
      refine wpAnyH_take (i := 23) (v := ?_) (by simp only [List.getElem?_toArray, List.getElem?_cons_succ, List.getElem?_cons_zero]; rfl) (by kernel_rfl) (by kernel_rfl) (by kernel_rfl) (fun _ _ _ h => h) (Or.inl ⟨by rfl, ?_⟩) (by assumption) ?_
      rotate_left 1
      · (intro w hSw; (try dsimp only at hSw); go_simp; try with_reducible rfl)
      try simp only [Act.put, List.setIfInBounds_toArray, List.set_cons_zero, List.set_cons_succ]
      refine wpAnyH_done (by kernel_rfl) ?_ _
      refine NoPanic.normal ?_
      have K6 := hide (K1.out.below B6.out)
      obtain ⟨c0, c1, c2, c3⟩ := ptb4 K6.out.b0
      obtain ⟨d0, d1, d2, d3⟩ := ptb4 K6.out.b1
      go_wp2_with fail
      clear c0 c1 c2 c3 d0 d1 d2 d3 hHeld
      refine (newer_any e c n f e' c' n' f' w6).mono ?_
      rintro r w7 ⟨rfl, hb⟩
      rw [← HX.out]
      have B7 := hide (B6.out.trans (hb.mono B6.out.size))
      clear hb
      have K7 := hide (K1.out.below B7.out)
      obtain ⟨c0, c1, c2, c3⟩ := ptb4 K7.out.b1
      obtain ⟨d0, d1, d2, d3⟩ := ptb4 K7.out.b2
      go_wp2_with fail
      clear c0 c1 c2 c3 d0 d1 d2 d3
      refine (newer_any e' c' n' f' a b s t w7).mono ?_
      rintro r w8 ⟨rfl, hb⟩
      rw [← HZ.out]
      have B8 := hide (B7.out.trans (hb.mono B7.out.size))
      clear hb
      rcases z with _ | _
      · go_wp2_with fail
        go_ret
        exact ⟨rfl, B1.out.trans (B8.out.mono B1.out.size)⟩
      · have K8 := hide (K1.out.below B8.out)
        obtain ⟨c0, c1, c2, c3⟩ := ptb4 K8.out.b0
        obtain ⟨d0, d1, d2, d3⟩ := ptb4 K8.out.b2
        have hu := hide (show u = true from HXZ.out.elim (fun h => by cases h) (fun h => h.elim (fun h => by cases h) id))
        go_wp2_with fail
        clear c0 c1 c2 c3 d0 d1 d2 d3
        refine (newer_any e c n f a b s t w8).mono ?_
        rintro r w9 ⟨rfl, hb⟩
        rw [← HU.out, hu.out]
        have B9 := hide (B8.out.trans (hb.mono B8.out.size))
        clear hb
        go_wp2_with fail
        go_ret
        exact ⟨rfl, B1.out.trans (B9.out.mono B1.out.size)⟩
end Go.Proofs.Ytfaingklglelnaa
