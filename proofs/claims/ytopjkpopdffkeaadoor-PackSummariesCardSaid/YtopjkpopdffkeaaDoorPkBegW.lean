/- The walk over the packer's begin. -/
import Derived.Test.YtopjkpopdffkeaaDoorPkTryW
import Derived.Test.YtopjkpopdffkeaaDoorCO5
set_option linter.unusedVariables false
set_option linter.unusedSimpArgs false
namespace Go.Proofs.YtopjkpopdffkeaaDoor
open Go.RowKit
attribute [local go_sem ↓] Go.wp_at_zero Go.wp_at_succ

def begS (st : PkS) : PkS := { out := st.out ++ [⟨decide (st.left ≤ 2), [], []⟩], left := if st.left ≤ 2 then st.size else st.left, size := st.size, file := -1 }
set_option maxRecDepth 100000 in
set_option maxHeartbeats 1000000 in
theorem begin_any (base k : Nat) (st : PkS) (w : World) (h : Pkr base w k st) (hol : st.out.length ≤ 100000) (hB : base ≤ w.heap.size) :
    Calls Tryd.prog 21 #[.pointer (some ⟨k, 0, none⟩)] w fun e w' => e = .returned (.tuple #[]) ∧ Pkr base w' k (begS st) ∧ Kt TP base w w' := by
  obtain ⟨A, c, q0, q1, q2, q3, hO, hfr⟩ := h.quad
  obtain ⟨left, hleft⟩ : ∃ x, x = st.left := ⟨_, rfl⟩
  obtain ⟨size, hsize⟩ : ∃ x, x = st.size := ⟨_, rfl⟩
  obtain ⟨n, hn⟩ : ∃ x, x = st.out.length := ⟨_, rfl⟩
  rw [← hleft] at q1
  rw [← hsize] at q2
  rw [← hn] at q0 hO hol
  have H := hide h
  have HB := hide hB
  have HL := hide hleft
  have HS := hide hsize
  have HN := hide hn
  have HO := hide hO
  have Q0 := hide q0
  clear h hB hleft hsize hn hO
  obtain ⟨b, L, W3, hb2, hL, hW⟩ : ∃ (b : Bool) (L : Int) (W3 : World), b = decide (left ≤ 2) ∧ L = (if left ≤ 2 then size else left) ∧ W3 = (if left ≤ 2 then (w.setCell ⟨k, 1, none⟩ (.int .i64 size)).alloc (.cells #[.bool true, .slice none 0 0, .slice none 0 0] 37) else w.alloc (.cells #[.bool false, .slice none 0 0, .slice none 0 0] 37)) := ⟨_, _, _, rfl, rfl, rfl⟩
  have hst : Hid (begS st = { out := st.out ++ [⟨b, [], []⟩], left := L, size := st.size, file := -1 }) := hide (by rw [hb2, hL, HL.out, HS.out]; rfl)
  have HkO : k ≠ w.heap.size := Nat.ne_of_lt H.out.lt
  by_cases hlt : left ≤ 2
  · rw [if_pos hlt] at hW hL
    rw [decide_eq_true hlt] at hb2
    subst hb2
    have KB : Hid (Blk W3 w.heap.size 37 #[.bool true, .slice none 0 0, .slice none 0 0]) := hide (by rw [hW]; have := Blk.new (w.setCell ⟨k, 1, none⟩ (.int .i64 size)) 37 #[.bool true, .slice none 0 0, .slice none 0 0]; rwa [World.size_setCell] at this)
    have PK : Hid (Pkr base W3 k { st with left := L }) := hide (by rw [hW, hL]; exact (H.out.left_ size).below ((Below.refl _ _).alloc (Nat.le_refl _) _))
    have KT : Hid (Kt TP base w W3) := hide (by rw [hW]; exact (H.out.setKt 1 _).trans (Kt.of_below ((Below.refl _ _).alloc (Nat.le_refl _) _)))
    have HW := hide hW
    have hkl := H.out.lt
    have HO3 : Hid (OutR base W3 A n c st.out) := hide (HO.out.kt KT.out (fun g hg => by
      obtain ⟨-, cs, hB⟩ := HO.out.blk hg
      have hgk : g ≠ k := by
        rintro rfl
        obtain ⟨-, _, _, hK, -⟩ := H.out
        have := (Blk.type hB hK).1
        revert this
        decide
      rw [HW.out, Below.heap_alloc _ _ g (by rw [World.size_setCell]; exact hB.lt)]
      exact Below.heap_setCell _ _ _ g hgk))
    have HNB : Hid (some w.heap.size ≠ (Value.slice A n c).ownBlock) := hide (fun e => by obtain ⟨-, cs, hB⟩ := HO.out.blk e.symm; have := hB.lt; omega)
    have Q3 : Hid (W3.cell? ⟨k, 0, none⟩ = some (.slice A n c)) := hide (by rw [HW.out, World.cell?_alloc_lt _ _ _ (by rw [World.size_setCell]; exact hkl), World.cell?_setCell_other _ _ _ _ (by simp)]; exact q0)
    clear hW hL HkO
    go_enter Tryd.func21, Tryd.ntmps21
    go_wp2_with fail
    rw [← HW.out]
    clear hlt q0 q1 q2 q3 hfr HW HL HS H
    clear HO
    have k0 := Q3.out
    have x0 := KB.out.cell 0
    have x1 := KB.out.cell 1
    have x2 := KB.out.cell 2
    simp only [List.getElem?_toArray, List.getElem?_cons_succ, List.getElem?_cons_zero] at x0 x1 x2
    refine wp_region_noPanic ?_
    refine wp_region_held_drew (S := (fun w' => w'.cell? ⟨w.heap.size, 0, none⟩ = some (.bool true) ∧ w'.cell? ⟨w.heap.size, 1, none⟩ = some (.slice none 0 0) ∧ w'.cell? ⟨w.heap.size, 2, none⟩ = some (.slice none 0 0))) (by kernel_rfl) ?_ (fun hHeld => ?_)
    · ((try dsimp only) <;> (first | trivial | assumption | go_keep))
    refine wpAnyH_take (i := 0) (v := ?_) (by simp only [List.getElem?_toArray, List.getElem?_cons_succ, List.getElem?_cons_zero]; rfl) (by kernel_rfl) (by kernel_rfl) (by kernel_rfl) (fun _ _ _ h => h) (Or.inl ⟨by rfl, ?_⟩) (by assumption) ?_
    rotate_left 1
    · (intro w hSw; (try dsimp only at hSw); go_simp; try with_reducible rfl)
    try simp only [Act.put, List.setIfInBounds_toArray, List.set_cons_zero, List.set_cons_succ]
    refine wpAnyH_take (i := 1) (v := ?_) (by simp only [List.getElem?_toArray, List.getElem?_cons_succ, List.getElem?_cons_zero]; rfl) (by kernel_rfl) (by kernel_rfl) (by kernel_rfl) (fun _ _ _ h => h) (Or.inl ⟨by rfl, ?_⟩) (by assumption) ?_
    rotate_left 1
    · (intro w hSw; (try dsimp only at hSw); go_simp; try with_reducible rfl)
    try simp only [Act.put, List.setIfInBounds_toArray, List.set_cons_zero, List.set_cons_succ]
    refine wpAnyH_take (i := 2) (v := ?_) (by simp only [List.getElem?_toArray, List.getElem?_cons_succ, List.getElem?_cons_zero]; rfl) (by kernel_rfl) (by kernel_rfl) (by kernel_rfl) (fun _ _ _ h => h) (Or.inl ⟨by rfl, ?_⟩) (by assumption) ?_
    rotate_left 1
    · (intro w hSw; (try dsimp only at hSw); go_simp; try with_reducible rfl)
    try simp only [Act.put, List.setIfInBounds_toArray, List.set_cons_zero, List.set_cons_succ]
    refine wpAnyH_take (i := 3) (v := ?_) (by simp only [List.getElem?_toArray, List.getElem?_cons_succ, List.getElem?_cons_zero]; rfl) (by kernel_rfl) (by kernel_rfl) (by kernel_rfl) (fun _ _ _ h => h) (Or.inl ⟨by rfl, ?_⟩) (by assumption) ?_
    rotate_left 1
    · (intro w hSw; (try dsimp only at hSw); go_simp; try with_reducible rfl)
    try simp only [Act.put, List.setIfInBounds_toArray, List.set_cons_zero, List.set_cons_succ]
    refine wpAnyH_take (i := 5) (v := ?_) (by simp only [List.getElem?_toArray, List.getElem?_cons_succ, List.getElem?_cons_zero]; rfl) (by kernel_rfl) (by kernel_rfl) (by kernel_rfl) (fun _ _ _ h => h) (Or.inl ⟨by rfl, ?_⟩) (by assumption) ?_
    rotate_left 1
    · (intro w hSw; (try dsimp only at hSw); go_simp; try with_reducible rfl)
    try simp only [Act.put, List.setIfInBounds_toArray, List.set_cons_zero, List.set_cons_succ]
    have SLI := hide (fun w0 : World => one_slice etyPc w0 #[.bool true, .slice none 0 0, .slice none 0 0] rfl (by decide))
    have SL := SLI.out
    have SLI := hide (fun w0 : World => one_slice etyPc w0 #[.bool true, .slice none 0 0, .slice none 0 0] rfl (by decide))
    have SL := SLI.out
    refine wpAnyH_ready (rs := [4, 6]) (by kernel_rfl) (by simp) ?_
    refine AllReadyH.cons (by simp only [List.getElem?_toArray, List.getElem?_cons_succ, List.getElem?_cons_zero]; rfl) (fun K hK => ?_) ?_
    rotate_left 1
    refine AllReadyH.cons (by simp only [List.getElem?_toArray, List.getElem?_cons_succ, List.getElem?_cons_zero]; rfl) (fun K hK => ?_) ?_
    rotate_left 1
    exact AllReadyH.nil
    focus
      go_simp
      refine hK.out _ _ ?_ (fun hHeld2 => ?_)
      · ((try dsimp only) <;> (first | trivial | assumption | go_keep))
      clear hHeld
      have hHeld := hHeld2
      clear hHeld2 hK K
      try simp only [Act.put, List.setIfInBounds_toArray, List.set_cons_zero, List.set_cons_succ]
      refine wpAnyH_ready (rs := [6]) (by kernel_rfl) (by simp) ?_
      refine AllReadyH.cons (by simp only [List.getElem?_toArray, List.getElem?_cons_succ, List.getElem?_cons_zero]; rfl) (fun K hK => ?_) ?_
      rotate_left 1
      · exact AllReadyH.nil
      go_simp
      refine hK.out _ _ ?_ (fun hHeld2 => ?_)
      · ((try dsimp only) <;> (first | trivial | assumption | go_keep))
      clear hHeld
      have hHeld := hHeld2
      clear hHeld2 hK K
      try simp only [Act.put, List.setIfInBounds_toArray, List.set_cons_zero, List.set_cons_succ]
      have PK5 := hide (PK.out.below ((Below.refl _ _).alloc (Nat.le_refl _) (.cells #[.bool true, .slice none 0 0, .slice none 0 0] 37)).drew)
      have O5 := hide (HO3.out.kt (w' := (W3.alloc (.cells #[.bool true, .slice none 0 0, .slice none 0 0] 37)).drew) (Kt.of_below ((Below.refl _ _).alloc (Nat.le_refl _) _).drew) (fun g hg => ((Below.refl W3.heap.size W3).alloc (Nat.le_refl _) _).drew.block g (by obtain ⟨-, cs, hB⟩ := HO3.out.blk hg; exact hB.lt)))
      have KB5 := hide (KB.out.below ((Below.refl _ _).alloc (Nat.le_refl _) (.cells #[.bool true, .slice none 0 0, .slice none 0 0] 37)).drew)
      have SC5 := hide (show SlC (W3.alloc (.cells #[.bool true, .slice none 0 0, .slice none 0 0] 37)).drew (W3.heap.size + 1) (some ⟨W3.heap.size, 0, none⟩) 1 3 [.bool true, .slice none 0 0, .slice none 0 0] from (slc_new W3 [.bool true, .slice none 0 0, .slice none 0 0] 37 (m := 1) (k := 3) rfl).below (Below.refl _ _).drew)
      obtain ⟨cs, o1, o2, o3, o4⟩ := O5.out
      have hb5 : base ≤ ((W3.alloc (.cells #[.bool true, .slice none 0 0, .slice none 0 0] 37)).drew).heap.size := Nat.le_trans HB.out (Nat.le_trans KT.out.size (by simp))
      obtain ⟨w5, hw5⟩ : ∃ w5, w5 = (W3.alloc (.cells #[.bool true, .slice none 0 0, .slice none 0 0] 37)).drew := ⟨_, rfl⟩
      have KT5 : Hid (Kt TP base w w5) := hide (by rw [hw5]; exact KT.out.trans (Kt.of_below ((Below.refl _ _).alloc (Nat.le_refl _) _).drew))
      rw [← hw5] at PK5 O5 KB5 SC5 o3 o4 hb5 hHeld ⊢
      clear hw5
      refine wpAnyH_ready (rs := [7]) (by kernel_rfl) (by simp) ?_
      refine AllReadyH.cons (by simp only [List.getElem?_toArray, List.getElem?_cons_succ, List.getElem?_cons_zero]; rfl) (fun K hK => ?_) ?_
      rotate_left 1
      · exact AllReadyH.nil
      refine step_appK (by rfl) (.tmp 22) (.tmp 24) _ (by rfl) etyPc base (.slice A n c) n cs.flatten (by rfl) o3 _ (some ⟨W3.heap.size, 0, none⟩) 1 1 [.bool true, .slice none 0 0, .slice none 0 0] (by rfl) SC5.out (by simp [Value.oneCell']) (by omega) hb5 ?_; intro A8 c8 w8 hown hg hnew; have PU := hide (OutR.push o1 o2 o3 o4 (show PcC base w5 [.bool true, .slice none 0 0, .slice none 0 0] ⟨true, [], []⟩ from ⟨none, 0, none, 0, rfl, FisAt.nil, RwAt.nil⟩) rfl hown hg); have KB8 := hide (blk_gr KB5.out hg HNB.out); have PO := hide (PK5.out.out_ O5.out hg (m := n + 1) (ps := st.out ++ [⟨true, [], []⟩]) (by rw [List.length_append, o1]; rfl) PU.out.1 PU.out.2); have KK8 := hide (PK5.out.blkG O5.out hg); clear hown hg hnew
      refine hK.out _ _ ?_ (fun hHeld2 => ?_)
      · ((try dsimp only) <;> (exact ⟨KB8.out.cell 0, KB8.out.cell 1, KB8.out.cell 2⟩))
      clear hHeld
      have hHeld := hHeld2
      clear hHeld2 hK K
      try simp only [Act.put, List.setIfInBounds_toArray, List.set_cons_zero, List.set_cons_succ]
      refine wpAnyH_take (i := 8) (v := ?_) (by simp only [List.getElem?_toArray, List.getElem?_cons_succ, List.getElem?_cons_zero]; rfl) (by kernel_rfl) (by kernel_rfl) (by kernel_rfl) (fun _ _ _ h => h) (Or.inl ⟨by rfl, ?_⟩) (by assumption) ?_
      rotate_left 1
      · (intro w hSw; (try dsimp only at hSw); go_simp; try with_reducible rfl)
      try simp only [Act.put, List.setIfInBounds_toArray, List.set_cons_zero, List.set_cons_succ]
      refine wpAnyH_take (i := 9) (v := ?_) (by simp only [List.getElem?_toArray, List.getElem?_cons_succ, List.getElem?_cons_zero]; rfl) (by kernel_rfl) (by kernel_rfl) (by kernel_rfl) (fun _ _ _ h => h) (Or.inl ⟨by rfl, ?_⟩) (by assumption) ?_
      rotate_left 1
      · (intro w hSw; (try dsimp only at hSw); go_simp; try with_reducible rfl)
      try simp only [Act.put, List.setIfInBounds_toArray, List.set_cons_zero, List.set_cons_succ]
      obtain ⟨u8, csk, hk8⟩ := KK8.out
      have k80 := hk8.cell 0
      have k8f := hk8.frozen 0
      refine wpAnyH_ready (rs := [10]) (by kernel_rfl) (by simp) ?_
      refine AllReadyH.cons (by simp only [List.getElem?_toArray, List.getElem?_cons_succ, List.getElem?_cons_zero]; rfl) (fun K hK => ?_) ?_
      rotate_left 1
      · exact AllReadyH.nil
      go_simp
      refine hK.out _ _ ?_ (fun hHeld2 => ?_)
      · ((try dsimp only) <;> (exact ⟨(KB8.out.far (p := ⟨k, 0, none⟩) (Ne.symm (Nat.ne_of_lt hkl)) _).cell 0, (KB8.out.far (p := ⟨k, 0, none⟩) (Ne.symm (Nat.ne_of_lt hkl)) _).cell 1, (KB8.out.far (p := ⟨k, 0, none⟩) (Ne.symm (Nat.ne_of_lt hkl)) _).cell 2⟩))
      clear hHeld
      have hHeld := hHeld2
      clear hHeld2 hK K
      try simp only [Act.put, List.setIfInBounds_toArray, List.set_cons_zero, List.set_cons_succ]
      refine wpAnyH_done (by kernel_rfl) ?_ _
      refine NoPanic.normal ?_
      obtain ⟨-, -, -, -, -, r3, -, rf⟩ := PO.out.1.quad
      have r3f := rf 3
      clear rf hk8 k80 k8f
      go_wp2_with fail
      go_end0
      refine ⟨rfl, ?_, (KT5.out.trans PO.out.2).trans (PO.out.1.setKt 3 _)⟩
      rw [hst.out]
      exact PO.out.1.file_ (-1)
    focus
      go_simp
      refine hK.out _ _ ?_ (fun hHeld2 => ?_)
      · ((try dsimp only) <;> (first | trivial | assumption | go_keep))
      clear hHeld
      have hHeld := hHeld2
      clear hHeld2 hK K
      try simp only [Act.put, List.setIfInBounds_toArray, List.set_cons_zero, List.set_cons_succ]
      have hkl3 : k < W3.heap.size := Nat.lt_of_lt_of_le hkl KT.out.size
      refine wpAnyH_ready (rs := [4]) (by kernel_rfl) (by simp) ?_
      refine AllReadyH.cons (by simp only [List.getElem?_toArray, List.getElem?_cons_succ, List.getElem?_cons_zero]; rfl) (fun K hK => ?_) ?_
      rotate_left 1
      · exact AllReadyH.nil
      go_simp
      refine hK.out _ _ ?_ (fun hHeld2 => ?_)
      · ((try dsimp only) <;> (first | trivial | assumption | go_keep))
      clear hHeld
      have hHeld := hHeld2
      clear hHeld2 hK K
      try simp only [Act.put, List.setIfInBounds_toArray, List.set_cons_zero, List.set_cons_succ]
      clear hkl3
      have PK5 := hide (PK.out.below ((Below.refl _ _).alloc (Nat.le_refl _) (.cells #[.bool true, .slice none 0 0, .slice none 0 0] 37)).drew)
      have O5 := hide (HO3.out.kt (w' := (W3.alloc (.cells #[.bool true, .slice none 0 0, .slice none 0 0] 37)).drew) (Kt.of_below ((Below.refl _ _).alloc (Nat.le_refl _) _).drew) (fun g hg => ((Below.refl W3.heap.size W3).alloc (Nat.le_refl _) _).drew.block g (by obtain ⟨-, cs, hB⟩ := HO3.out.blk hg; exact hB.lt)))
      have KB5 := hide (KB.out.below ((Below.refl _ _).alloc (Nat.le_refl _) (.cells #[.bool true, .slice none 0 0, .slice none 0 0] 37)).drew)
      have SC5 := hide (show SlC (W3.alloc (.cells #[.bool true, .slice none 0 0, .slice none 0 0] 37)).drew (W3.heap.size + 1) (some ⟨W3.heap.size, 0, none⟩) 1 3 [.bool true, .slice none 0 0, .slice none 0 0] from (slc_new W3 [.bool true, .slice none 0 0, .slice none 0 0] 37 (m := 1) (k := 3) rfl).below (Below.refl _ _).drew)
      obtain ⟨cs, o1, o2, o3, o4⟩ := O5.out
      have hb5 : base ≤ ((W3.alloc (.cells #[.bool true, .slice none 0 0, .slice none 0 0] 37)).drew).heap.size := Nat.le_trans HB.out (Nat.le_trans KT.out.size (by simp))
      obtain ⟨w5, hw5⟩ : ∃ w5, w5 = (W3.alloc (.cells #[.bool true, .slice none 0 0, .slice none 0 0] 37)).drew := ⟨_, rfl⟩
      have KT5 : Hid (Kt TP base w w5) := hide (by rw [hw5]; exact KT.out.trans (Kt.of_below ((Below.refl _ _).alloc (Nat.le_refl _) _).drew))
      rw [← hw5] at PK5 O5 KB5 SC5 o3 o4 hb5 hHeld ⊢
      clear hw5
      refine wpAnyH_ready (rs := [7]) (by kernel_rfl) (by simp) ?_
      refine AllReadyH.cons (by simp only [List.getElem?_toArray, List.getElem?_cons_succ, List.getElem?_cons_zero]; rfl) (fun K hK => ?_) ?_
      rotate_left 1
      · exact AllReadyH.nil
      refine step_appK (by rfl) (.tmp 22) (.tmp 24) _ (by rfl) etyPc base (.slice A n c) n cs.flatten (by rfl) o3 _ (some ⟨W3.heap.size, 0, none⟩) 1 1 [.bool true, .slice none 0 0, .slice none 0 0] (by rfl) SC5.out (by simp [Value.oneCell']) (by omega) hb5 ?_; intro A8 c8 w8 hown hg hnew; have PU := hide (OutR.push o1 o2 o3 o4 (show PcC base w5 [.bool true, .slice none 0 0, .slice none 0 0] ⟨true, [], []⟩ from ⟨none, 0, none, 0, rfl, FisAt.nil, RwAt.nil⟩) rfl hown hg); have KB8 := hide (blk_gr KB5.out hg HNB.out); have PO := hide (PK5.out.out_ O5.out hg (m := n + 1) (ps := st.out ++ [⟨true, [], []⟩]) (by rw [List.length_append, o1]; rfl) PU.out.1 PU.out.2); have KK8 := hide (PK5.out.blkG O5.out hg); clear hown hg hnew
      refine hK.out _ _ ?_ (fun hHeld2 => ?_)
      · ((try dsimp only) <;> (exact ⟨KB8.out.cell 0, KB8.out.cell 1, KB8.out.cell 2⟩))
      clear hHeld
      have hHeld := hHeld2
      clear hHeld2 hK K
      try simp only [Act.put, List.setIfInBounds_toArray, List.set_cons_zero, List.set_cons_succ]
      refine wpAnyH_take (i := 8) (v := ?_) (by simp only [List.getElem?_toArray, List.getElem?_cons_succ, List.getElem?_cons_zero]; rfl) (by kernel_rfl) (by kernel_rfl) (by kernel_rfl) (fun _ _ _ h => h) (Or.inl ⟨by rfl, ?_⟩) (by assumption) ?_
      rotate_left 1
      · (intro w hSw; (try dsimp only at hSw); go_simp; try with_reducible rfl)
      try simp only [Act.put, List.setIfInBounds_toArray, List.set_cons_zero, List.set_cons_succ]
      refine wpAnyH_take (i := 9) (v := ?_) (by simp only [List.getElem?_toArray, List.getElem?_cons_succ, List.getElem?_cons_zero]; rfl) (by kernel_rfl) (by kernel_rfl) (by kernel_rfl) (fun _ _ _ h => h) (Or.inl ⟨by rfl, ?_⟩) (by assumption) ?_
      rotate_left 1
      · (intro w hSw; (try dsimp only at hSw); go_simp; try with_reducible rfl)
      try simp only [Act.put, List.setIfInBounds_toArray, List.set_cons_zero, List.set_cons_succ]
      obtain ⟨u8, csk, hk8⟩ := KK8.out
      have k80 := hk8.cell 0
      have k8f := hk8.frozen 0
      refine wpAnyH_ready (rs := [10]) (by kernel_rfl) (by simp) ?_
      refine AllReadyH.cons (by simp only [List.getElem?_toArray, List.getElem?_cons_succ, List.getElem?_cons_zero]; rfl) (fun K hK => ?_) ?_
      rotate_left 1
      · exact AllReadyH.nil
      go_simp
      refine hK.out _ _ ?_ (fun hHeld2 => ?_)
      · ((try dsimp only) <;> (exact ⟨(KB8.out.far (p := ⟨k, 0, none⟩) (Ne.symm (Nat.ne_of_lt hkl)) _).cell 0, (KB8.out.far (p := ⟨k, 0, none⟩) (Ne.symm (Nat.ne_of_lt hkl)) _).cell 1, (KB8.out.far (p := ⟨k, 0, none⟩) (Ne.symm (Nat.ne_of_lt hkl)) _).cell 2⟩))
      clear hHeld
      have hHeld := hHeld2
      clear hHeld2 hK K
      try simp only [Act.put, List.setIfInBounds_toArray, List.set_cons_zero, List.set_cons_succ]
      refine wpAnyH_done (by kernel_rfl) ?_ _
      refine NoPanic.normal ?_
      obtain ⟨-, -, -, -, -, r3, -, rf⟩ := PO.out.1.quad
      have r3f := rf 3
      clear rf hk8 k80 k8f
      go_wp2_with fail
      go_end0
      refine ⟨rfl, ?_, (KT5.out.trans PO.out.2).trans (PO.out.1.setKt 3 _)⟩
      rw [hst.out]
      exact PO.out.1.file_ (-1)
  · rw [if_neg hlt] at hW hL
    rw [decide_eq_false hlt] at hb2
    subst hb2
    have KB : Hid (Blk W3 w.heap.size 37 #[.bool false, .slice none 0 0, .slice none 0 0]) := hide (by rw [hW]; exact Blk.new _ _ _)
    have PK : Hid (Pkr base W3 k { st with left := L }) := hide (by rw [hW, hL, HL.out]; exact H.out.below ((Below.refl _ _).alloc (Nat.le_refl _) _))
    have KT : Hid (Kt TP base w W3) := hide (by rw [hW]; exact Kt.of_below ((Below.refl _ _).alloc (Nat.le_refl _) _))
    have HW := hide hW
    have hkl := H.out.lt
    have HO3 : Hid (OutR base W3 A n c st.out) := hide (HO.out.kt KT.out (fun g hg => by
      obtain ⟨-, cs, hB⟩ := HO.out.blk hg
      rw [HW.out]
      exact Below.heap_alloc w _ g hB.lt))
    have HNB : Hid (some w.heap.size ≠ (Value.slice A n c).ownBlock) := hide (fun e => by obtain ⟨-, cs, hB⟩ := HO.out.blk e.symm; have := hB.lt; omega)
    have Q3 : Hid (W3.cell? ⟨k, 0, none⟩ = some (.slice A n c)) := hide (by rw [HW.out, World.cell?_alloc_lt _ _ _ hkl]; exact q0)
    clear hW hL HkO
    go_enter Tryd.func21, Tryd.ntmps21
    go_wp2_with fail
    rw [← HW.out]
    clear hlt q0 q1 q2 q3 hfr HW HL HS H
    clear HO
    have k0 := Q3.out
    have x0 := KB.out.cell 0
    have x1 := KB.out.cell 1
    have x2 := KB.out.cell 2
    simp only [List.getElem?_toArray, List.getElem?_cons_succ, List.getElem?_cons_zero] at x0 x1 x2
    refine wp_region_noPanic ?_
    refine wp_region_held_drew (S := (fun w' => w'.cell? ⟨w.heap.size, 0, none⟩ = some (.bool false) ∧ w'.cell? ⟨w.heap.size, 1, none⟩ = some (.slice none 0 0) ∧ w'.cell? ⟨w.heap.size, 2, none⟩ = some (.slice none 0 0))) (by kernel_rfl) ?_ (fun hHeld => ?_)
    · ((try dsimp only) <;> (first | trivial | assumption | go_keep))
    refine wpAnyH_take (i := 0) (v := ?_) (by simp only [List.getElem?_toArray, List.getElem?_cons_succ, List.getElem?_cons_zero]; rfl) (by kernel_rfl) (by kernel_rfl) (by kernel_rfl) (fun _ _ _ h => h) (Or.inl ⟨by rfl, ?_⟩) (by assumption) ?_
    rotate_left 1
    · (intro w hSw; (try dsimp only at hSw); go_simp; try with_reducible rfl)
    try simp only [Act.put, List.setIfInBounds_toArray, List.set_cons_zero, List.set_cons_succ]
    refine wpAnyH_take (i := 1) (v := ?_) (by simp only [List.getElem?_toArray, List.getElem?_cons_succ, List.getElem?_cons_zero]; rfl) (by kernel_rfl) (by kernel_rfl) (by kernel_rfl) (fun _ _ _ h => h) (Or.inl ⟨by rfl, ?_⟩) (by assumption) ?_
    rotate_left 1
    · (intro w hSw; (try dsimp only at hSw); go_simp; try with_reducible rfl)
    try simp only [Act.put, List.setIfInBounds_toArray, List.set_cons_zero, List.set_cons_succ]
    refine wpAnyH_take (i := 2) (v := ?_) (by simp only [List.getElem?_toArray, List.getElem?_cons_succ, List.getElem?_cons_zero]; rfl) (by kernel_rfl) (by kernel_rfl) (by kernel_rfl) (fun _ _ _ h => h) (Or.inl ⟨by rfl, ?_⟩) (by assumption) ?_
    rotate_left 1
    · (intro w hSw; (try dsimp only at hSw); go_simp; try with_reducible rfl)
    try simp only [Act.put, List.setIfInBounds_toArray, List.set_cons_zero, List.set_cons_succ]
    refine wpAnyH_take (i := 3) (v := ?_) (by simp only [List.getElem?_toArray, List.getElem?_cons_succ, List.getElem?_cons_zero]; rfl) (by kernel_rfl) (by kernel_rfl) (by kernel_rfl) (fun _ _ _ h => h) (Or.inl ⟨by rfl, ?_⟩) (by assumption) ?_
    rotate_left 1
    · (intro w hSw; (try dsimp only at hSw); go_simp; try with_reducible rfl)
    try simp only [Act.put, List.setIfInBounds_toArray, List.set_cons_zero, List.set_cons_succ]
    refine wpAnyH_take (i := 5) (v := ?_) (by simp only [List.getElem?_toArray, List.getElem?_cons_succ, List.getElem?_cons_zero]; rfl) (by kernel_rfl) (by kernel_rfl) (by kernel_rfl) (fun _ _ _ h => h) (Or.inl ⟨by rfl, ?_⟩) (by assumption) ?_
    rotate_left 1
    · (intro w hSw; (try dsimp only at hSw); go_simp; try with_reducible rfl)
    try simp only [Act.put, List.setIfInBounds_toArray, List.set_cons_zero, List.set_cons_succ]
    have SLI := hide (fun w0 : World => one_slice etyPc w0 #[.bool false, .slice none 0 0, .slice none 0 0] rfl (by decide))
    have SL := SLI.out
    have SLI := hide (fun w0 : World => one_slice etyPc w0 #[.bool false, .slice none 0 0, .slice none 0 0] rfl (by decide))
    have SL := SLI.out
    refine wpAnyH_ready (rs := [4, 6]) (by kernel_rfl) (by simp) ?_
    refine AllReadyH.cons (by simp only [List.getElem?_toArray, List.getElem?_cons_succ, List.getElem?_cons_zero]; rfl) (fun K hK => ?_) ?_
    rotate_left 1
    refine AllReadyH.cons (by simp only [List.getElem?_toArray, List.getElem?_cons_succ, List.getElem?_cons_zero]; rfl) (fun K hK => ?_) ?_
    rotate_left 1
    exact AllReadyH.nil
    focus
      go_simp
      refine hK.out _ _ ?_ (fun hHeld2 => ?_)
      · ((try dsimp only) <;> (first | trivial | assumption | go_keep))
      clear hHeld
      have hHeld := hHeld2
      clear hHeld2 hK K
      try simp only [Act.put, List.setIfInBounds_toArray, List.set_cons_zero, List.set_cons_succ]
      refine wpAnyH_ready (rs := [6]) (by kernel_rfl) (by simp) ?_
      refine AllReadyH.cons (by simp only [List.getElem?_toArray, List.getElem?_cons_succ, List.getElem?_cons_zero]; rfl) (fun K hK => ?_) ?_
      rotate_left 1
      · exact AllReadyH.nil
      go_simp
      refine hK.out _ _ ?_ (fun hHeld2 => ?_)
      · ((try dsimp only) <;> (first | trivial | assumption | go_keep))
      clear hHeld
      have hHeld := hHeld2
      clear hHeld2 hK K
      try simp only [Act.put, List.setIfInBounds_toArray, List.set_cons_zero, List.set_cons_succ]
      have PK5 := hide (PK.out.below ((Below.refl _ _).alloc (Nat.le_refl _) (.cells #[.bool false, .slice none 0 0, .slice none 0 0] 37)).drew)
      have O5 := hide (HO3.out.kt (w' := (W3.alloc (.cells #[.bool false, .slice none 0 0, .slice none 0 0] 37)).drew) (Kt.of_below ((Below.refl _ _).alloc (Nat.le_refl _) _).drew) (fun g hg => ((Below.refl W3.heap.size W3).alloc (Nat.le_refl _) _).drew.block g (by obtain ⟨-, cs, hB⟩ := HO3.out.blk hg; exact hB.lt)))
      have KB5 := hide (KB.out.below ((Below.refl _ _).alloc (Nat.le_refl _) (.cells #[.bool false, .slice none 0 0, .slice none 0 0] 37)).drew)
      have SC5 := hide (show SlC (W3.alloc (.cells #[.bool false, .slice none 0 0, .slice none 0 0] 37)).drew (W3.heap.size + 1) (some ⟨W3.heap.size, 0, none⟩) 1 3 [.bool false, .slice none 0 0, .slice none 0 0] from (slc_new W3 [.bool false, .slice none 0 0, .slice none 0 0] 37 (m := 1) (k := 3) rfl).below (Below.refl _ _).drew)
      obtain ⟨cs, o1, o2, o3, o4⟩ := O5.out
      have hb5 : base ≤ ((W3.alloc (.cells #[.bool false, .slice none 0 0, .slice none 0 0] 37)).drew).heap.size := Nat.le_trans HB.out (Nat.le_trans KT.out.size (by simp))
      obtain ⟨w5, hw5⟩ : ∃ w5, w5 = (W3.alloc (.cells #[.bool false, .slice none 0 0, .slice none 0 0] 37)).drew := ⟨_, rfl⟩
      have KT5 : Hid (Kt TP base w w5) := hide (by rw [hw5]; exact KT.out.trans (Kt.of_below ((Below.refl _ _).alloc (Nat.le_refl _) _).drew))
      rw [← hw5] at PK5 O5 KB5 SC5 o3 o4 hb5 hHeld ⊢
      clear hw5
      refine wpAnyH_ready (rs := [7]) (by kernel_rfl) (by simp) ?_
      refine AllReadyH.cons (by simp only [List.getElem?_toArray, List.getElem?_cons_succ, List.getElem?_cons_zero]; rfl) (fun K hK => ?_) ?_
      rotate_left 1
      · exact AllReadyH.nil
      refine step_appK (by rfl) (.tmp 22) (.tmp 24) _ (by rfl) etyPc base (.slice A n c) n cs.flatten (by rfl) o3 _ (some ⟨W3.heap.size, 0, none⟩) 1 1 [.bool false, .slice none 0 0, .slice none 0 0] (by rfl) SC5.out (by simp [Value.oneCell']) (by omega) hb5 ?_; intro A8 c8 w8 hown hg hnew; have PU := hide (OutR.push o1 o2 o3 o4 (show PcC base w5 [.bool false, .slice none 0 0, .slice none 0 0] ⟨false, [], []⟩ from ⟨none, 0, none, 0, rfl, FisAt.nil, RwAt.nil⟩) rfl hown hg); have KB8 := hide (blk_gr KB5.out hg HNB.out); have PO := hide (PK5.out.out_ O5.out hg (m := n + 1) (ps := st.out ++ [⟨false, [], []⟩]) (by rw [List.length_append, o1]; rfl) PU.out.1 PU.out.2); have KK8 := hide (PK5.out.blkG O5.out hg); clear hown hg hnew
      refine hK.out _ _ ?_ (fun hHeld2 => ?_)
      · ((try dsimp only) <;> (exact ⟨KB8.out.cell 0, KB8.out.cell 1, KB8.out.cell 2⟩))
      clear hHeld
      have hHeld := hHeld2
      clear hHeld2 hK K
      try simp only [Act.put, List.setIfInBounds_toArray, List.set_cons_zero, List.set_cons_succ]
      refine wpAnyH_take (i := 8) (v := ?_) (by simp only [List.getElem?_toArray, List.getElem?_cons_succ, List.getElem?_cons_zero]; rfl) (by kernel_rfl) (by kernel_rfl) (by kernel_rfl) (fun _ _ _ h => h) (Or.inl ⟨by rfl, ?_⟩) (by assumption) ?_
      rotate_left 1
      · (intro w hSw; (try dsimp only at hSw); go_simp; try with_reducible rfl)
      try simp only [Act.put, List.setIfInBounds_toArray, List.set_cons_zero, List.set_cons_succ]
      refine wpAnyH_take (i := 9) (v := ?_) (by simp only [List.getElem?_toArray, List.getElem?_cons_succ, List.getElem?_cons_zero]; rfl) (by kernel_rfl) (by kernel_rfl) (by kernel_rfl) (fun _ _ _ h => h) (Or.inl ⟨by rfl, ?_⟩) (by assumption) ?_
      rotate_left 1
      · (intro w hSw; (try dsimp only at hSw); go_simp; try with_reducible rfl)
      try simp only [Act.put, List.setIfInBounds_toArray, List.set_cons_zero, List.set_cons_succ]
      obtain ⟨u8, csk, hk8⟩ := KK8.out
      have k80 := hk8.cell 0
      have k8f := hk8.frozen 0
      refine wpAnyH_ready (rs := [10]) (by kernel_rfl) (by simp) ?_
      refine AllReadyH.cons (by simp only [List.getElem?_toArray, List.getElem?_cons_succ, List.getElem?_cons_zero]; rfl) (fun K hK => ?_) ?_
      rotate_left 1
      · exact AllReadyH.nil
      go_simp
      refine hK.out _ _ ?_ (fun hHeld2 => ?_)
      · ((try dsimp only) <;> (exact ⟨(KB8.out.far (p := ⟨k, 0, none⟩) (Ne.symm (Nat.ne_of_lt hkl)) _).cell 0, (KB8.out.far (p := ⟨k, 0, none⟩) (Ne.symm (Nat.ne_of_lt hkl)) _).cell 1, (KB8.out.far (p := ⟨k, 0, none⟩) (Ne.symm (Nat.ne_of_lt hkl)) _).cell 2⟩))
      clear hHeld
      have hHeld := hHeld2
      clear hHeld2 hK K
      try simp only [Act.put, List.setIfInBounds_toArray, List.set_cons_zero, List.set_cons_succ]
      refine wpAnyH_done (by kernel_rfl) ?_ _
      refine NoPanic.normal ?_
      obtain ⟨-, -, -, -, -, r3, -, rf⟩ := PO.out.1.quad
      have r3f := rf 3
      clear rf hk8 k80 k8f
      go_wp2_with fail
      go_end0
      refine ⟨rfl, ?_, (KT5.out.trans PO.out.2).trans (PO.out.1.setKt 3 _)⟩
      rw [hst.out]
      exact PO.out.1.file_ (-1)
    focus
      go_simp
      refine hK.out _ _ ?_ (fun hHeld2 => ?_)
      · ((try dsimp only) <;> (first | trivial | assumption | go_keep))
      clear hHeld
      have hHeld := hHeld2
      clear hHeld2 hK K
      try simp only [Act.put, List.setIfInBounds_toArray, List.set_cons_zero, List.set_cons_succ]
      have hkl3 : k < W3.heap.size := Nat.lt_of_lt_of_le hkl KT.out.size
      refine wpAnyH_ready (rs := [4]) (by kernel_rfl) (by simp) ?_
      refine AllReadyH.cons (by simp only [List.getElem?_toArray, List.getElem?_cons_succ, List.getElem?_cons_zero]; rfl) (fun K hK => ?_) ?_
      rotate_left 1
      · exact AllReadyH.nil
      go_simp
      refine hK.out _ _ ?_ (fun hHeld2 => ?_)
      · ((try dsimp only) <;> (first | trivial | assumption | go_keep))
      clear hHeld
      have hHeld := hHeld2
      clear hHeld2 hK K
      try simp only [Act.put, List.setIfInBounds_toArray, List.set_cons_zero, List.set_cons_succ]
      clear hkl3
      have PK5 := hide (PK.out.below ((Below.refl _ _).alloc (Nat.le_refl _) (.cells #[.bool false, .slice none 0 0, .slice none 0 0] 37)).drew)
      have O5 := hide (HO3.out.kt (w' := (W3.alloc (.cells #[.bool false, .slice none 0 0, .slice none 0 0] 37)).drew) (Kt.of_below ((Below.refl _ _).alloc (Nat.le_refl _) _).drew) (fun g hg => ((Below.refl W3.heap.size W3).alloc (Nat.le_refl _) _).drew.block g (by obtain ⟨-, cs, hB⟩ := HO3.out.blk hg; exact hB.lt)))
      have KB5 := hide (KB.out.below ((Below.refl _ _).alloc (Nat.le_refl _) (.cells #[.bool false, .slice none 0 0, .slice none 0 0] 37)).drew)
      have SC5 := hide (show SlC (W3.alloc (.cells #[.bool false, .slice none 0 0, .slice none 0 0] 37)).drew (W3.heap.size + 1) (some ⟨W3.heap.size, 0, none⟩) 1 3 [.bool false, .slice none 0 0, .slice none 0 0] from (slc_new W3 [.bool false, .slice none 0 0, .slice none 0 0] 37 (m := 1) (k := 3) rfl).below (Below.refl _ _).drew)
      obtain ⟨cs, o1, o2, o3, o4⟩ := O5.out
      have hb5 : base ≤ ((W3.alloc (.cells #[.bool false, .slice none 0 0, .slice none 0 0] 37)).drew).heap.size := Nat.le_trans HB.out (Nat.le_trans KT.out.size (by simp))
      obtain ⟨w5, hw5⟩ : ∃ w5, w5 = (W3.alloc (.cells #[.bool false, .slice none 0 0, .slice none 0 0] 37)).drew := ⟨_, rfl⟩
      have KT5 : Hid (Kt TP base w w5) := hide (by rw [hw5]; exact KT.out.trans (Kt.of_below ((Below.refl _ _).alloc (Nat.le_refl _) _).drew))
      rw [← hw5] at PK5 O5 KB5 SC5 o3 o4 hb5 hHeld ⊢
      clear hw5
      refine wpAnyH_ready (rs := [7]) (by kernel_rfl) (by simp) ?_
      refine AllReadyH.cons (by simp only [List.getElem?_toArray, List.getElem?_cons_succ, List.getElem?_cons_zero]; rfl) (fun K hK => ?_) ?_
      rotate_left 1
      · exact AllReadyH.nil
      refine step_appK (by rfl) (.tmp 22) (.tmp 24) _ (by rfl) etyPc base (.slice A n c) n cs.flatten (by rfl) o3 _ (some ⟨W3.heap.size, 0, none⟩) 1 1 [.bool false, .slice none 0 0, .slice none 0 0] (by rfl) SC5.out (by simp [Value.oneCell']) (by omega) hb5 ?_; intro A8 c8 w8 hown hg hnew; have PU := hide (OutR.push o1 o2 o3 o4 (show PcC base w5 [.bool false, .slice none 0 0, .slice none 0 0] ⟨false, [], []⟩ from ⟨none, 0, none, 0, rfl, FisAt.nil, RwAt.nil⟩) rfl hown hg); have KB8 := hide (blk_gr KB5.out hg HNB.out); have PO := hide (PK5.out.out_ O5.out hg (m := n + 1) (ps := st.out ++ [⟨false, [], []⟩]) (by rw [List.length_append, o1]; rfl) PU.out.1 PU.out.2); have KK8 := hide (PK5.out.blkG O5.out hg); clear hown hg hnew
      refine hK.out _ _ ?_ (fun hHeld2 => ?_)
      · ((try dsimp only) <;> (exact ⟨KB8.out.cell 0, KB8.out.cell 1, KB8.out.cell 2⟩))
      clear hHeld
      have hHeld := hHeld2
      clear hHeld2 hK K
      try simp only [Act.put, List.setIfInBounds_toArray, List.set_cons_zero, List.set_cons_succ]
      refine wpAnyH_take (i := 8) (v := ?_) (by simp only [List.getElem?_toArray, List.getElem?_cons_succ, List.getElem?_cons_zero]; rfl) (by kernel_rfl) (by kernel_rfl) (by kernel_rfl) (fun _ _ _ h => h) (Or.inl ⟨by rfl, ?_⟩) (by assumption) ?_
      rotate_left 1
      · (intro w hSw; (try dsimp only at hSw); go_simp; try with_reducible rfl)
      try simp only [Act.put, List.setIfInBounds_toArray, List.set_cons_zero, List.set_cons_succ]
      refine wpAnyH_take (i := 9) (v := ?_) (by simp only [List.getElem?_toArray, List.getElem?_cons_succ, List.getElem?_cons_zero]; rfl) (by kernel_rfl) (by kernel_rfl) (by kernel_rfl) (fun _ _ _ h => h) (Or.inl ⟨by rfl, ?_⟩) (by assumption) ?_
      rotate_left 1
      · (intro w hSw; (try dsimp only at hSw); go_simp; try with_reducible rfl)
      try simp only [Act.put, List.setIfInBounds_toArray, List.set_cons_zero, List.set_cons_succ]
      obtain ⟨u8, csk, hk8⟩ := KK8.out
      have k80 := hk8.cell 0
      have k8f := hk8.frozen 0
      refine wpAnyH_ready (rs := [10]) (by kernel_rfl) (by simp) ?_
      refine AllReadyH.cons (by simp only [List.getElem?_toArray, List.getElem?_cons_succ, List.getElem?_cons_zero]; rfl) (fun K hK => ?_) ?_
      rotate_left 1
      · exact AllReadyH.nil
      go_simp
      refine hK.out _ _ ?_ (fun hHeld2 => ?_)
      · ((try dsimp only) <;> (exact ⟨(KB8.out.far (p := ⟨k, 0, none⟩) (Ne.symm (Nat.ne_of_lt hkl)) _).cell 0, (KB8.out.far (p := ⟨k, 0, none⟩) (Ne.symm (Nat.ne_of_lt hkl)) _).cell 1, (KB8.out.far (p := ⟨k, 0, none⟩) (Ne.symm (Nat.ne_of_lt hkl)) _).cell 2⟩))
      clear hHeld
      have hHeld := hHeld2
      clear hHeld2 hK K
      try simp only [Act.put, List.setIfInBounds_toArray, List.set_cons_zero, List.set_cons_succ]
      refine wpAnyH_done (by kernel_rfl) ?_ _
      refine NoPanic.normal ?_
      obtain ⟨-, -, -, -, -, r3, -, rf⟩ := PO.out.1.quad
      have r3f := rf 3
      clear rf hk8 k80 k8f
      go_wp2_with fail
      go_end0
      refine ⟨rfl, ?_, (KT5.out.trans PO.out.2).trans (PO.out.1.setKt 3 _)⟩
      rw [hst.out]
      exact PO.out.1.file_ (-1)
end Go.Proofs.YtopjkpopdffkeaaDoor
