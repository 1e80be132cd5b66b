/- The walk of marllaw17.PointBlocks. -/
import Derived.Test.YtfaingklglelnaaPtRdW
import Derived.Test.YtfaingklglelnaaPtEq
import Derived.Test.YtfaingklglelnaaPtAwake
import Derived.Test.YtfaingklglelnaaConv
namespace Go.Proofs.Ytfaingklglelnaa
open Go.RowKit
attribute [local go_sem ↓] Go.wp_at_zero Go.wp_at_succ

theorem dec_fit {l : List UInt8} {p : Pt} (h : decP l = some p) : p.fit := Pt.fit_of (decP_some h).1
/-- What both decoders answer: a point that fits, and a number. -/
theorem decV_form (l : List UInt8) : ∃ (p : Pt) (code : Int), p.fit ∧ decV l = .tuple #[p.val, .int .i64 code] := by
  rcases h : decP l with _ | p
  · exact ⟨⟨0, 0, 0, 0⟩, 100, pt0_fit, decV_none h⟩
  · exact ⟨p, 0, dec_fit h, decV_some h⟩
theorem empty_ownP {w : World} {base : Nat} (hb : base ≤ w.heap.size) : (w.alloc (.cells #[] 5)).ownsRow base 5 1 (.slice (some ⟨w.heap.size, 0, none⟩) 0 0) 0 [] := own_built (w := w) (e := 5) #[] hb rfl (by omega)

theorem ptP_natB {e c n f : Int} (h : PtP e c n f) : ∃ a b s t : Nat, e = a ∧ c = b ∧ n = s ∧ f = t := by
  unfold PtP at h
  exact ⟨e.toNat, c.toNat, n.toNat, f.toNat, by omega, by omega, by omega, by omega⟩
set_option maxHeartbeats 1000000 in
theorem blocks_big (e c n f : Int) (A : Option Addr) (m k : Nat) (w : World) (hbig : 500 < m) :
    Calls Try.prog 3 #[ptV e c n f, .slice A m k] w fun r w' => r = .returned (.bool true) ∧ Below w.heap.size w w' := by
  go_enter Try.func3, Try.ntmps3
  go_wp2_with fail
  have B0 := hide ((Below.refl w.heap.size w).alloc (Nat.le_refl _) (.cells (ptC e c n f) 23))
  refine (awake17 _).mono ?_
  rintro r w1 ⟨rfl, hb⟩
  replace B0 := hide (B0.out.trans (hb.mono B0.out.size))
  clear hb
  go_wp2_with fail
  refine (awake17 _).mono ?_
  rintro r w2 ⟨rfl, hb⟩
  replace B0 := hide (B0.out.trans (hb.mono B0.out.size))
  clear hb
  go_wp2_with fail
  go_ret
  exact ⟨rfl, B0.out⟩

theorem cells8 {w : World} {g g' : Nat} {t t' : TypeId} {x0 x1 x2 x3 y0 y1 y2 y3 : Value} (h : Blk w g t #[x0, x1, x2, x3]) (h' : Blk w g' t' #[y0, y1, y2, y3]) :
    w.cell? ⟨g, 0, none⟩ = some x0 ∧ w.cell? ⟨g, 1, none⟩ = some x1 ∧ w.cell? ⟨g, 2, none⟩ = some x2 ∧ w.cell? ⟨g, 3, none⟩ = some x3 ∧ w.cell? ⟨g', 0, none⟩ = some y0 ∧ w.cell? ⟨g', 1, none⟩ = some y1 ∧ w.cell? ⟨g', 2, none⟩ = some y2 ∧ w.cell? ⟨g', 3, none⟩ = some y3 :=
  ⟨h.cell 0, h.cell 1, h.cell 2, h.cell 3, h'.cell 0, h'.cell 1, h'.cell 2, h'.cell 3⟩
set_option maxRecDepth 100000 in
set_option maxHeartbeats 4000000 in
theorem blocks_small (e c n f : Int) (A : Option Addr) (m k : Nat) (l : List UInt8) (w : World) (h : By w w.heap.size A m l) (hm : m ≤ 500) (hk : m ≤ k) :
    Calls Try.prog 3 #[ptV e c n f, .slice A m k] w fun r w' => r = .returned (.bool true) ∧ Below w.heap.size w w' := by
  have H := hide h
  have HLEN := hide h.length
  have hmd : decide ((500 : Int) < (m : Int)) = false := decide_eq_false (by omega)
  obtain ⟨cv, hcv⟩ := cv_ex Try.prog 24 9
  have CT := hide (fun (w' : World) (B : Nat) (A : Option Addr) (n c : Nat) (l : List UInt8) (h : By w' B A n l) => cv_txt hcv Try.underlying24 Try.underlying5 Try.underlying9 (w := w') c h)
  clear h
  by_cases hp : PtP e c n f
  focus
    obtain ⟨e, c, n, f, rfl, rfl, rfl, rfl⟩ := ptP_natB hp
    have HP := hide hp
    have hd : Hid (decide (PtP e c n f) = true) := hide (decide_eq_true hp)
    have hck : Hid (ckV e c n f = 0) := hide (if_pos hp)
    have HD := hide (decV_some (decP_bytes (p := ⟨e, c, n, f⟩) hp))
    have HS := hide (pt_same ⟨e, c, n, f⟩ (Pt.fit_of hp))
    clear hp
    go_enter Try.func3, Try.ntmps3
    go_upto_region 1 with fail
    have K0 := hide (Blk.new w 23 (ptC e c n f))
    have B0 := hide ((Below.refl w.heap.size w).alloc (Nat.le_refl _) (.cells (ptC e c n f) 23))
    generalize w.alloc _ = w0 at *
    go_wp2_with fail
    refine (awake17 _).mono ?_
    rintro r w1 ⟨rfl, hb⟩
    replace B0 := hide (B0.out.trans (hb.mono B0.out.size))
    replace K0 := hide (K0.out.below hb)
    clear hb
    obtain ⟨c0, c1, c2, c3⟩ := ptb4 K0.out
    go_wp2_with fail
    clear c0 c1 c2 c3
    refine (enc_yes e c n f _ HP.out).mono ?_
    rintro r w2 ⟨Ac, kc, rfl, ho, hb⟩
    have OC := hide (OwnBy.by ho)
    have OCc := own_capQ ho
    replace B0 := hide (B0.out.trans (hb.mono B0.out.size))
    replace K0 := hide (K0.out.below hb)
    clear hb ho
    obtain ⟨c0, c1, c2, c3⟩ := ptb4 K0.out
    go_wp2_with fail
    clear c0 c1 c2 c3
    refine (pref_any e c n f _).mono ?_
    rintro r w3 ⟨rfl, hb⟩
    replace B0 := hide (B0.out.trans (hb.mono B0.out.size))
    replace K0 := hide (K0.out.below hb)
    replace OC := hide ((OC.out.below hb).more hb.size)
    clear hb
    go_wp2_with fail
    refine (rgood_any e c n f _).mono ?_
    rintro r w4 ⟨rfl, hb⟩
    rw [hd.out]
    replace B0 := hide (B0.out.trans (hb.mono B0.out.size))
    replace K0 := hide (K0.out.below hb)
    replace OC := hide ((OC.out.below hb).more hb.size)
    clear hb
    go_wp2_with fail
    refine (dec_any Ac 64 kc _ _ w4 OC.out (Nat.le_refl _) OCc (by decide)).mono ?_
    rintro r w5 ⟨rfl, hb⟩
    rw [HD.out]
    replace B0 := hide (B0.out.trans (hb.mono B0.out.size))
    replace K0 := hide (K0.out.below hb)
    replace OC := hide ((OC.out.below hb).more hb.size)
    clear hb
    go_upto_region 8 with fail
    have K7 := hide (Blk.new w5 23 (ptC e c n f))
    replace K0 := hide (K0.out.alloc (.cells (ptC e c n f) 23))
    replace B0 := hide (B0.out.alloc B0.out.size (.cells (ptC e c n f) 23))
    replace OC := hide (OC.out.alloc (Nat.le_refl _) (.cells (ptC e c n f) 23))
    have hz5 := hide (show w5.heap.size ≤ (w5.alloc (.cells (ptC e c n f) 23)).heap.size by simp)
    generalize w5.alloc (.cells (ptC e c n f) 23) = w6 at *
    generalize w5.heap.size = g7 at *
    have CC := hide (fun (w' : World) (hb : Below w6.heap.size w6 w') => And.intro (cells8 (K0.out.below hb) (K7.out.below hb)) (CT.out w' g7 Ac 64 kc _ (OC.out.below (hb.mono hz5.out))))
    have s0 := CC.out _ (Below.refl _ _).drew
    refine wp_region_noPanic ?_
    refine wp_region_held_drew (S := (fun w' => (w'.cell? ⟨w.heap.size, 0, none⟩ = some (.int .i64 (e : Int)) ∧ w'.cell? ⟨w.heap.size, 1, none⟩ = some (.int .i64 (c : Int)) ∧ w'.cell? ⟨w.heap.size, 2, none⟩ = some (.int .i64 (n : Int)) ∧ w'.cell? ⟨w.heap.size, 3, none⟩ = some (.int .i64 (f : Int)) ∧ w'.cell? ⟨g7, 0, none⟩ = some (.int .i64 (e : Int)) ∧ w'.cell? ⟨g7, 1, none⟩ = some (.int .i64 (c : Int)) ∧ w'.cell? ⟨g7, 2, none⟩ = some (.int .i64 (n : Int)) ∧ w'.cell? ⟨g7, 3, none⟩ = some (.int .i64 (f : Int))) ∧ cv (.slice Ac 64 kc) w' = .ok (.string (txt (ptBytes e c n f))) w')) (by kernel_rfl) ?_ (fun hHeld => ?_)
    · exact s0
    clear s0
    have BW := hide ((Below.refl w6.heap.size w6).drew)
    refine wpAnyH_take (i := 0) (v := ?_) (by simp only [List.getElem?_toArray, List.getElem?_cons_succ, List.getElem?_cons_zero]; rfl) (by kernel_rfl) (by kernel_rfl) (by kernel_rfl) (fun _ _ _ h => h) (Or.inl ⟨by rfl, ?_⟩) (by assumption) ?_
    rotate_left 1
    · (intro w hSw; (try dsimp only at hSw); go_simp; try with_reducible rfl)
    try simp only [Act.put, List.setIfInBounds_toArray, List.set_cons_zero, List.set_cons_succ]
    refine wpAnyH_take (i := 1) (v := ?_) (by simp only [List.getElem?_toArray, List.getElem?_cons_succ, List.getElem?_cons_zero]; rfl) (by kernel_rfl) (by kernel_rfl) (by kernel_rfl) (fun _ _ _ h => h) (Or.inl ⟨by rfl, ?_⟩) (by assumption) ?_
    rotate_left 1
    · (intro w hSw; (try dsimp only at hSw); go_simp; try with_reducible rfl)
    try simp only [Act.put, List.setIfInBounds_toArray, List.set_cons_zero, List.set_cons_succ]
    refine wpAnyH_take (i := 2) (v := ?_) (by simp only [List.getElem?_toArray, List.getElem?_cons_succ, List.getElem?_cons_zero]; rfl) (by kernel_rfl) (by kernel_rfl) (by kernel_rfl) (fun _ _ _ h => h) (Or.inl ⟨by rfl, ?_⟩) (by assumption) ?_
    rotate_left 1
    · (intro w hSw; (try dsimp only at hSw); go_simp; try with_reducible rfl)
    try simp only [Act.put, List.setIfInBounds_toArray, List.set_cons_zero, List.set_cons_succ]
    refine wpAnyH_take (i := 3) (v := ?_) (by simp only [List.getElem?_toArray, List.getElem?_cons_succ, List.getElem?_cons_zero]; rfl) (by kernel_rfl) (by kernel_rfl) (by kernel_rfl) (fun _ _ _ h => h) (Or.inl ⟨by rfl, ?_⟩) (by assumption) ?_
    rotate_left 1
    · (intro w hSw; (try dsimp only at hSw); go_simp; try with_reducible rfl)
    try simp only [Act.put, List.setIfInBounds_toArray, List.set_cons_zero, List.set_cons_succ]
    refine wpAnyH_ready (rs := [4]) (by kernel_rfl) (by simp) ?_
    refine AllReadyH.cons (by simp only [List.getElem?_toArray, List.getElem?_cons_succ, List.getElem?_cons_zero]; rfl) (fun K hK => ?_) ?_
    rotate_left 1
    · exact AllReadyH.nil
    go_simp
    refine (check_any e c n f _).mono ?_; rintro r w7 ⟨rfl, hb⟩; rw [hck.out]; have B7 := hide (BW.out.trans (hb.mono BW.out.size)); clear hb; go_wp2_with fail
    refine hK.out _ _ ?_ (fun hHeld2 => ?_)
    · ((try dsimp only) <;> (exact CC.out _ B7.out))
    clear hHeld
    have hHeld := hHeld2
    clear hHeld2 hK K
    try simp only [Act.put, List.setIfInBounds_toArray, List.set_cons_zero, List.set_cons_succ]
    refine wpAnyH_take (i := 5) (v := ?_) (by simp only [List.getElem?_toArray, List.getElem?_cons_succ, List.getElem?_cons_zero]; rfl) (by kernel_rfl) (by kernel_rfl) (by kernel_rfl) (fun _ _ _ h => h) (Or.inl ⟨by rfl, ?_⟩) (by assumption) ?_
    rotate_left 1
    · (intro w hSw; (try dsimp only at hSw); go_simp; try with_reducible rfl)
    try simp only [Act.put, List.setIfInBounds_toArray, List.set_cons_zero, List.set_cons_succ]
    refine wpAnyH_take (i := 6) (v := ?_) (by simp only [List.getElem?_toArray, List.getElem?_cons_succ, List.getElem?_cons_zero]; rfl) (by kernel_rfl) (by kernel_rfl) (by kernel_rfl) (fun _ _ _ h => h) (Or.inl ⟨by rfl, ?_⟩) (by assumption) ?_
    rotate_left 1
    · (intro w hSw; (try dsimp only at hSw); go_simp; try with_reducible rfl)
    try simp only [Act.put, List.setIfInBounds_toArray, List.set_cons_zero, List.set_cons_succ]
    refine wpAnyH_take (i := 7) (v := ?_) (by simp only [List.getElem?_toArray, List.getElem?_cons_succ, List.getElem?_cons_zero]; rfl) (by kernel_rfl) (by kernel_rfl) (by kernel_rfl) (fun _ _ _ h => h) (Or.inl ⟨by rfl, ?_⟩) (by assumption) ?_
    rotate_left 1
    · (intro w hSw; (try dsimp only at hSw); go_simp; try with_reducible rfl)
    try simp only [Act.put, List.setIfInBounds_toArray, List.set_cons_zero, List.set_cons_succ]
    refine wpAnyH_take (i := 8) (v := ?_) (by simp only [List.getElem?_toArray, List.getElem?_cons_succ, List.getElem?_cons_zero]; rfl) (by kernel_rfl) (by kernel_rfl) (by kernel_rfl) (fun _ _ _ h => h) (Or.inl ⟨by rfl, ?_⟩) (by assumption) ?_
    rotate_left 1
    · (intro w hSw; (try dsimp only at hSw); go_simp; try with_reducible rfl)
    try simp only [Act.put, List.setIfInBounds_toArray, List.set_cons_zero, List.set_cons_succ]
    refine wpAnyH_take (i := 9) (v := ?_) (by simp only [List.getElem?_toArray, List.getElem?_cons_succ, List.getElem?_cons_zero]; rfl) (by kernel_rfl) (by kernel_rfl) (by kernel_rfl) (fun _ _ _ h => h) (Or.inl ⟨by rfl, ?_⟩) (by assumption) ?_
    rotate_left 1
    · (intro w hSw; (try dsimp only at hSw); go_simp; try with_reducible rfl)
    try simp only [Act.put, List.setIfInBounds_toArray, List.set_cons_zero, List.set_cons_succ]
    refine wpAnyH_take (i := 10) (v := ?_) (by simp only [List.getElem?_toArray, List.getElem?_cons_succ, List.getElem?_cons_zero]; rfl) (by kernel_rfl) (by kernel_rfl) (by kernel_rfl) (fun _ _ _ h => h) (Or.inl ⟨by rfl, ?_⟩) (by assumption) ?_
    rotate_left 1
    · (intro w hSw; (try dsimp only at hSw); go_simp; try with_reducible rfl)
    try simp only [Act.put, List.setIfInBounds_toArray, List.set_cons_zero, List.set_cons_succ]
    refine wpAnyH_ready (rs := [11]) (by kernel_rfl) (by simp) ?_
    refine AllReadyH.cons (by simp only [List.getElem?_toArray, List.getElem?_cons_succ, List.getElem?_cons_zero]; rfl) (fun K hK => ?_) ?_
    rotate_left 1
    · exact AllReadyH.nil
    go_simp
    refine (pref_any e c n f _).mono ?_; rintro r w8 ⟨rfl, hb⟩; have B8 := hide (B7.out.trans (hb.mono B7.out.size)); clear hb; go_wp2_with fail
    refine hK.out _ _ ?_ (fun hHeld2 => ?_)
    · ((try dsimp only) <;> (exact CC.out _ B8.out))
    clear hHeld
    have hHeld := hHeld2
    clear hHeld2 hK K
    try simp only [Act.put, List.setIfInBounds_toArray, List.set_cons_zero, List.set_cons_succ]
    refine wpAnyH_ready (rs := [12]) (by kernel_rfl) (by simp) ?_
    refine AllReadyH.cons (by simp only [List.getElem?_toArray, List.getElem?_cons_succ, List.getElem?_cons_zero]; rfl) (fun K hK => ?_) ?_
    rotate_left 1
    · exact AllReadyH.nil
    go_simp
    refine (renc17 e c n f _ HP.out).mono ?_; rintro r w9 ⟨rfl, hb⟩; have B9 := hide (B8.out.trans (hb.mono B8.out.size)); have ht := txt_eq (ptBytes e c n f); clear hb; go_wp2_with fail
    refine hK.out _ _ ?_ (fun hHeld2 => ?_)
    · ((try dsimp only) <;> (exact CC.out _ B9.out))
    clear hHeld
    have hHeld := hHeld2
    clear hHeld2 hK K
    try simp only [Act.put, List.setIfInBounds_toArray, List.set_cons_zero, List.set_cons_succ]
    refine wpAnyH_take (i := 13) (v := ?_) (by simp only [List.getElem?_toArray, List.getElem?_cons_succ, List.getElem?_cons_zero]; rfl) (by kernel_rfl) (by kernel_rfl) (by kernel_rfl) (fun _ _ _ h => h) (Or.inl ⟨by rfl, ?_⟩) (by assumption) ?_
    rotate_left 1
    · (intro w hSw; (try dsimp only at hSw); go_simp; try with_reducible rfl)
    try simp only [Act.put, List.setIfInBounds_toArray, List.set_cons_zero, List.set_cons_succ]
    refine wpAnyH_take (i := 14) (v := ?_) (by simp only [List.getElem?_toArray, List.getElem?_cons_succ, List.getElem?_cons_zero]; rfl) (by kernel_rfl) (by kernel_rfl) (by kernel_rfl) (fun _ _ _ h => h) (Or.inl ⟨by rfl, ?_⟩) (by assumption) ?_
    rotate_left 1
    · (intro w hSw; (try dsimp only at hSw); go_simp; try with_reducible rfl)
    try simp only [Act.put, List.setIfInBounds_toArray, List.set_cons_zero, List.set_cons_succ]
    refine wpAnyH_take (i := 15) (v := ?_) (by simp only [List.getElem?_toArray, List.getElem?_cons_succ, List.getElem?_cons_zero]; rfl) (by kernel_rfl) (by kernel_rfl) (by kernel_rfl) (fun _ _ _ h => h) (Or.inl ⟨by rfl, ?_⟩) (by assumption) ?_
    rotate_left 1
    · (intro w hSw; (try dsimp only at hSw); go_simp; try with_reducible rfl)
    try simp only [Act.put, List.setIfInBounds_toArray, List.set_cons_zero, List.set_cons_succ]
    refine wpAnyH_take (i := 16) (v := ?_) (by simp only [List.getElem?_toArray, List.getElem?_cons_succ, List.getElem?_cons_zero]; rfl) (by kernel_rfl) (by kernel_rfl) (by kernel_rfl) (fun _ _ _ h => h) (Or.inl ⟨by rfl, ?_⟩) (by assumption) ?_
    rotate_left 1
    · (intro w hSw; (try dsimp only at hSw); go_simp; try with_reducible rfl)
    try simp only [Act.put, List.setIfInBounds_toArray, List.set_cons_zero, List.set_cons_succ]
    refine wpAnyH_take (i := 17) (v := ?_) (by simp only [List.getElem?_toArray, List.getElem?_cons_succ, List.getElem?_cons_zero]; rfl) (by kernel_rfl) (by kernel_rfl) (by kernel_rfl) (fun _ _ _ h => h) (Or.inl ⟨by rfl, ?_⟩) (by assumption) ?_
    rotate_left 1
    · (intro w hSw; (try dsimp only at hSw); go_simp; try with_reducible rfl)
    try simp only [Act.put, List.setIfInBounds_toArray, List.set_cons_zero, List.set_cons_succ]
    refine wpAnyH_take (i := 18) (v := ?_) (by simp only [List.getElem?_toArray, List.getElem?_cons_succ, List.getElem?_cons_zero]; rfl) (by kernel_rfl) (by kernel_rfl) (by kernel_rfl) (fun _ _ _ h => h) (Or.inl ⟨by rfl, ?_⟩) (by assumption) ?_
    rotate_left 1
    · (intro w hSw; (try dsimp only at hSw); go_simp; try with_reducible rfl)
    try simp only [Act.put, List.setIfInBounds_toArray, List.set_cons_zero, List.set_cons_succ]
    refine wpAnyH_take (i := 19) (v := ?_) (by simp only [List.getElem?_toArray, List.getElem?_cons_succ, List.getElem?_cons_zero]; rfl) (by kernel_rfl) (by kernel_rfl) (by kernel_rfl) (fun _ _ _ h => h) (Or.inl ⟨by rfl, ?_⟩) (by assumption) ?_
    rotate_left 1
    · (intro w hSw; (try dsimp only at hSw); go_simp; try with_reducible rfl)
    try simp only [Act.put, List.setIfInBounds_toArray, List.set_cons_zero, List.set_cons_succ]
    refine wpAnyH_take (i := 20) (v := ?_) (by simp only [List.getElem?_toArray, List.getElem?_cons_succ, List.getElem?_cons_zero]; rfl) (by kernel_rfl) (by kernel_rfl) (by kernel_rfl) (fun _ _ _ h => h) (Or.inl ⟨by rfl, ?_⟩) (by assumption) ?_
    rotate_left 1
    · (intro w hSw; (try dsimp only at hSw); go_simp; try with_reducible rfl)
    try simp only [Act.put, List.setIfInBounds_toArray, List.set_cons_zero, List.set_cons_succ]
    refine wpAnyH_take (i := 21) (v := ?_) (by simp only [List.getElem?_toArray, List.getElem?_cons_succ, List.getElem?_cons_zero]; rfl) (by kernel_rfl) (by kernel_rfl) (by kernel_rfl) (fun _ _ _ h => h) (Or.inl ⟨by rfl, ?_⟩) (by assumption) ?_
    rotate_left 1
    · (intro w hSw; (try dsimp only at hSw); go_simp; try with_reducible rfl)
    try simp only [Act.put, List.setIfInBounds_toArray, List.set_cons_zero, List.set_cons_succ]
    have hsame := HS.out
    refine wpAnyH_ready (rs := [22]) (by kernel_rfl) (by simp) ?_
    refine AllReadyH.cons (by simp only [List.getElem?_toArray, List.getElem?_cons_succ, List.getElem?_cons_zero]; rfl) (fun K hK => ?_) ?_
    rotate_left 1
    · exact AllReadyH.nil
    go_simp
    refine hK.out _ _ ?_ (fun hHeld2 => ?_)
    · ((try dsimp only) <;> (exact CC.out _ B9.out))
    clear hHeld
    have hHeld := hHeld2
    clear hHeld2 hK K
    try simp only [Act.put, List.setIfInBounds_toArray, List.set_cons_zero, List.set_cons_succ]
    refine wpAnyH_take (i := 23) (v := ?_) (by simp only [List.getElem?_toArray, List.getElem?_cons_succ, List.getElem?_cons_zero]; rfl) (by kernel_rfl) (by kernel_rfl) (by kernel_rfl) (fun _ _ _ h => h) (Or.inl ⟨by rfl, ?_⟩) (by assumption) ?_
    rotate_left 1
    · (intro w hSw; (try dsimp only at hSw); go_simp; try with_reducible rfl)
    try simp only [Act.put, List.setIfInBounds_toArray, List.set_cons_zero, List.set_cons_succ]
    refine wpAnyH_done (by kernel_rfl) ?_ _
    refine NoPanic.normal ?_
    have BQ := hide (B0.out.trans (B9.out.mono B0.out.size))
    clear hHeld CC BW B7 B8 B9 K0 K7 OC hz5 HP hd hck HD HS B0 hsame ht
  rotate_left 1
  focus
    have hd : Hid (decide (PtP e c n f) = false) := hide (decide_eq_false hp)
    have hck : Hid (ckV e c n f = 22) := hide (if_neg hp)
    have HP := hide hp
    clear hp
    go_enter Try.func3, Try.ntmps3
    go_upto_region 1 with fail
    have K0 := hide (Blk.new w 23 (ptC e c n f))
    have B0 := hide ((Below.refl w.heap.size w).alloc (Nat.le_refl _) (.cells (ptC e c n f) 23))
    generalize w.alloc _ = w0 at *
    go_wp2_with fail
    refine (awake17 _).mono ?_
    rintro r w1 ⟨rfl, hb⟩
    replace B0 := hide (B0.out.trans (hb.mono B0.out.size))
    replace K0 := hide (K0.out.below hb)
    clear hb
    obtain ⟨c0, c1, c2, c3⟩ := ptb4 K0.out
    go_wp2_with fail
    clear c0 c1 c2 c3
    refine (enc_no e c n f _ HP.out).mono ?_
    rintro r w2 ⟨rfl, hb⟩
    replace B0 := hide (B0.out.trans (hb.mono B0.out.size))
    replace K0 := hide (K0.out.below hb)
    clear hb
    obtain ⟨c0, c1, c2, c3⟩ := ptb4 K0.out
    go_wp2_with fail
    clear c0 c1 c2 c3
    refine (pref_any e c n f _).mono ?_
    rintro r w3 ⟨rfl, hb⟩
    replace B0 := hide (B0.out.trans (hb.mono B0.out.size))
    replace K0 := hide (K0.out.below hb)
    clear hb
    go_wp2_with fail
    refine (rgood_any e c n f _).mono ?_
    rintro r w4 ⟨rfl, hb⟩
    rw [hd.out]
    replace B0 := hide (B0.out.trans (hb.mono B0.out.size))
    replace K0 := hide (K0.out.below hb)
    clear hb
    obtain ⟨c0, c1, c2, c3⟩ := ptb4 K0.out
    go_wp2_with fail
    clear c0 c1 c2 c3
    refine (check_any e c n f _).mono ?_
    rintro r w9 ⟨rfl, hb⟩
    rw [hck.out]
    have BQ := hide (B0.out.trans (hb.mono B0.out.size))
    clear hb B0 K0 hd hck HP
  all_goals
    have OE := hide (empty_ownP (w := w9) (base := w.heap.size) BQ.out.size)
    have H9 := hide (H.out.below BQ.out)
    go_wp2_with (
      at_builtin
      refine wpList_app _ rfl (.tmp 72) (.tmp 73) _ rfl etyB w.heap.size (.slice (some ⟨w9.heap.size, 0, none⟩) 0 0) 0 [] rfl OE.out w.heap.size A m k (u8s l) rfl
        (H9.out.alloc BQ.out.size _) (u8s_one _) (by omega) (Nat.le_trans BQ.out.size (by simp)) ?_
      intro A2 k2 w10 hown hg _
      rw [List.nil_append, Nat.zero_add] at hown
      have O2 := hide (OwnBy.by (show OwnBy w10 w.heap.size A2 m k2 l from by simpa using hown))
      have O2c := own_capQ (show OwnBy w10 w.heap.size A2 m k2 l from by simpa using hown)
      have B2 := hide ((BQ.out.alloc BQ.out.size (.cells #[] 5)).grown hg (Nat.le_trans BQ.out.size (by simp)) (fun k hk => (OE.out.lt k hk).1))
      clear hown hg)
    refine (dec_any A2 m k2 _ l w10 O2.out (Nat.le_refl _) O2c (by omega)).mono ?_
    rintro r w11 ⟨rfl, hb⟩
    have ⟨⟨pe, pc, pn, pf⟩, code, hfit, hdv⟩ := decV_form l
    have HDV := hide hdv
    have HSM := hide (rt_same ⟨pe, pc, pn, pf⟩ hfit)
    rw [hdv]
    have B3 := hide (B2.out.trans (hb.mono B2.out.size))
    have O3 := hide ((O2.out.below hb).more hb.size)
    have hcc : (code == code) = true := beq_self_eq_true _
    clear hb hdv hfit OE H9 O2 B2 BQ
    go_upto_region 12 with fail
    have K10 := hide (Blk.new w11 23 (ptC pe pc pn pf))
    have B4 := hide (B3.out.alloc B3.out.size (.cells (ptC pe pc pn pf) 23))
    have O4 := hide (O3.out.alloc (Nat.le_refl _) (.cells (ptC pe pc pn pf) 23))
    have hz4 := hide (show w11.heap.size ≤ (w11.alloc (.cells (ptC pe pc pn pf) 23)).heap.size by simp)
    generalize w11.alloc (.cells (ptC pe pc pn pf) 23) = w12 at *
    generalize w11.heap.size = g10 at *
    have e1 := CT.out w12 _ A m k _ (H.out.below B4.out)
    go_wp2_with fail
    clear e1
    refine (rdec17 l w12 (by rw [HLEN.out]; omega)).mono ?_
    rintro r w13 ⟨rfl, hb⟩
    rw [HDV.out]
    have B5 := hide (B4.out.trans (hb.mono B4.out.size))
    have K11 := hide (K10.out.below hb)
    have O5 := hide (O4.out.below (hb.mono hz4.out))
    have hz5 := hide (Nat.le_trans hz4.out hb.size)
    clear hb B4 K10 O4 B3 O3 hz4
    go_upto_region 13 with fail
    have K12 := hide (Blk.new w13 30 (ptC pe pc pn pf))
    have K13 := hide (K11.out.alloc (.cells (ptC pe pc pn pf) 30))
    have B6 := hide (B5.out.alloc B5.out.size (.cells (ptC pe pc pn pf) 30))
    have O6 := hide (O5.out.alloc hz5.out (.cells (ptC pe pc pn pf) 30))
    have hz6 := hide (show g10 ≤ (w13.alloc (.cells (ptC pe pc pn pf) 30)).heap.size by have := hz5.out; simp; omega)
    generalize w13.alloc (.cells (ptC pe pc pn pf) 30) = w14 at *
    generalize w13.heap.size = g12 at *
    have CC := hide (fun (w' : World) (hb : Below w14.heap.size w14 w') => And.intro (cells8 (K13.out.below hb) (K12.out.below hb)) (And.intro (CT.out w' g10 A2 m k2 _ (O6.out.below (hb.mono hz6.out))) (CT.out w' w.heap.size A m k _ (H.out.below (B6.out.trans (hb.mono B6.out.size))))))
    have s0 := CC.out _ (Below.refl _ _).drew
    clear K11 B5 O5 hz5
    refine wp_region_noPanic ?_
    refine wp_region_held_drew (S := (fun w' => (w'.cell? ⟨g10, 0, none⟩ = some (.int .i64 (pe : Int)) ∧ w'.cell? ⟨g10, 1, none⟩ = some (.int .i64 (pc : Int)) ∧ w'.cell? ⟨g10, 2, none⟩ = some (.int .i64 (pn : Int)) ∧ w'.cell? ⟨g10, 3, none⟩ = some (.int .i64 (pf : Int)) ∧ w'.cell? ⟨g12, 0, none⟩ = some (.int .i64 (pe : Int)) ∧ w'.cell? ⟨g12, 1, none⟩ = some (.int .i64 (pc : Int)) ∧ w'.cell? ⟨g12, 2, none⟩ = some (.int .i64 (pn : Int)) ∧ w'.cell? ⟨g12, 3, none⟩ = some (.int .i64 (pf : Int))) ∧ cv (.slice A2 m k2) w' = .ok (.string (txt l)) w' ∧ cv (.slice A m k) w' = .ok (.string (txt l)) w')) (by kernel_rfl) ?_ (fun hHeld => ?_)
    focus
      exact s0
    clear s0
    have BW := hide ((Below.refl w14.heap.size w14).drew)
    have ht := txt_eq l
    have hsm := HSM.out
    refine wpAnyH_take (i := 0) (v := ?_) (by simp only [List.getElem?_toArray, List.getElem?_cons_succ, List.getElem?_cons_zero]; rfl) (by kernel_rfl) (by kernel_rfl) (by kernel_rfl) (fun _ _ _ h => h) (Or.inl ⟨by rfl, ?_⟩) (by assumption) ?_
    rotate_left 1
    · (intro w hSw; (try dsimp only at hSw); go_simp; try with_reducible rfl)
    try simp only [Act.put, List.setIfInBounds_toArray, List.set_cons_zero, List.set_cons_succ]
    refine wpAnyH_take (i := 1) (v := ?_) (by simp only [List.getElem?_toArray, List.getElem?_cons_succ, List.getElem?_cons_zero]; rfl) (by kernel_rfl) (by kernel_rfl) (by kernel_rfl) (fun _ _ _ h => h) (Or.inl ⟨by rfl, ?_⟩) (by assumption) ?_
    rotate_left 1
    · (intro w hSw; (try dsimp only at hSw); go_simp; try with_reducible rfl)
    try simp only [Act.put, List.setIfInBounds_toArray, List.set_cons_zero, List.set_cons_succ]
    refine wpAnyH_take (i := 2) (v := ?_) (by simp only [List.getElem?_toArray, List.getElem?_cons_succ, List.getElem?_cons_zero]; rfl) (by kernel_rfl) (by kernel_rfl) (by kernel_rfl) (fun _ _ _ h => h) (Or.inl ⟨by rfl, ?_⟩) (by assumption) ?_
    rotate_left 1
    · (intro w hSw; (try dsimp only at hSw); go_simp; try with_reducible rfl)
    try simp only [Act.put, List.setIfInBounds_toArray, List.set_cons_zero, List.set_cons_succ]
    refine wpAnyH_take (i := 3) (v := ?_) (by simp only [List.getElem?_toArray, List.getElem?_cons_succ, List.getElem?_cons_zero]; rfl) (by kernel_rfl) (by kernel_rfl) (by kernel_rfl) (fun _ _ _ h => h) (Or.inl ⟨by rfl, ?_⟩) (by assumption) ?_
    rotate_left 1
    · (intro w hSw; (try dsimp only at hSw); go_simp; try with_reducible rfl)
    try simp only [Act.put, List.setIfInBounds_toArray, List.set_cons_zero, List.set_cons_succ]
    refine wpAnyH_take (i := 4) (v := ?_) (by simp only [List.getElem?_toArray, List.getElem?_cons_succ, List.getElem?_cons_zero]; rfl) (by kernel_rfl) (by kernel_rfl) (by kernel_rfl) (fun _ _ _ h => h) (Or.inl ⟨by rfl, ?_⟩) (by assumption) ?_
    rotate_left 1
    · (intro w hSw; (try dsimp only at hSw); go_simp; try with_reducible rfl)
    try simp only [Act.put, List.setIfInBounds_toArray, List.set_cons_zero, List.set_cons_succ]
    refine wpAnyH_take (i := 6) (v := ?_) (by simp only [List.getElem?_toArray, List.getElem?_cons_succ, List.getElem?_cons_zero]; rfl) (by kernel_rfl) (by kernel_rfl) (by kernel_rfl) (fun _ _ _ h => h) (Or.inl ⟨by rfl, ?_⟩) (by assumption) ?_
    rotate_left 1
    · (intro w hSw; (try dsimp only at hSw); go_simp; try with_reducible rfl)
    try simp only [Act.put, List.setIfInBounds_toArray, List.set_cons_zero, List.set_cons_succ]
    refine wpAnyH_ready (rs := [5]) (by kernel_rfl) (by simp) ?_
    refine AllReadyH.cons (by simp only [List.getElem?_toArray, List.getElem?_cons_succ, List.getElem?_cons_zero]; rfl) (fun K hK => ?_) ?_
    rotate_left 1
    · exact AllReadyH.nil
    go_simp
    refine (pref_any pe pc pn pf _).mono ?_; rintro r w15 ⟨rfl, hb⟩; have B7 := hide (BW.out.trans (hb.mono BW.out.size)); clear hb; go_wp2_with fail
    refine hK.out _ _ ?_ (fun hHeld2 => ?_)
    · ((try dsimp only) <;> (exact CC.out _ B7.out))
    clear hHeld
    have hHeld := hHeld2
    clear hHeld2 hK K
    try simp only [Act.put, List.setIfInBounds_toArray, List.set_cons_zero, List.set_cons_succ]
    refine wpAnyH_ready (rs := [7]) (by kernel_rfl) (by simp) ?_
    refine AllReadyH.cons (by simp only [List.getElem?_toArray, List.getElem?_cons_succ, List.getElem?_cons_zero]; rfl) (fun K hK => ?_) ?_
    rotate_left 1
    · exact AllReadyH.nil
    go_simp
    refine hK.out _ _ ?_ (fun hHeld2 => ?_)
    · ((try dsimp only) <;> (exact CC.out _ B7.out))
    clear hHeld
    have hHeld := hHeld2
    clear hHeld2 hK K
    try simp only [Act.put, List.setIfInBounds_toArray, List.set_cons_zero, List.set_cons_succ]
    refine wpAnyH_take (i := 8) (v := ?_) (by simp only [List.getElem?_toArray, List.getElem?_cons_succ, List.getElem?_cons_zero]; rfl) (by kernel_rfl) (by kernel_rfl) (by kernel_rfl) (fun _ _ _ h => h) (Or.inl ⟨by rfl, ?_⟩) (by assumption) ?_
    rotate_left 1
    · (intro w hSw; (try dsimp only at hSw); go_simp; try with_reducible rfl)
    try simp only [Act.put, List.setIfInBounds_toArray, List.set_cons_zero, List.set_cons_succ]
    refine wpAnyH_take (i := 9) (v := ?_) (by simp only [List.getElem?_toArray, List.getElem?_cons_succ, List.getElem?_cons_zero]; rfl) (by kernel_rfl) (by kernel_rfl) (by kernel_rfl) (fun _ _ _ h => h) (Or.inl ⟨by rfl, ?_⟩) (by assumption) ?_
    rotate_left 1
    · (intro w hSw; (try dsimp only at hSw); go_simp; try with_reducible rfl)
    try simp only [Act.put, List.setIfInBounds_toArray, List.set_cons_zero, List.set_cons_succ]
    refine wpAnyH_take (i := 10) (v := ?_) (by simp only [List.getElem?_toArray, List.getElem?_cons_succ, List.getElem?_cons_zero]; rfl) (by kernel_rfl) (by kernel_rfl) (by kernel_rfl) (fun _ _ _ h => h) (Or.inl ⟨by rfl, ?_⟩) (by assumption) ?_
    rotate_left 1
    · (intro w hSw; (try dsimp only at hSw); go_simp; try with_reducible rfl)
    try simp only [Act.put, List.setIfInBounds_toArray, List.set_cons_zero, List.set_cons_succ]
    refine wpAnyH_take (i := 11) (v := ?_) (by simp only [List.getElem?_toArray, List.getElem?_cons_succ, List.getElem?_cons_zero]; rfl) (by kernel_rfl) (by kernel_rfl) (by kernel_rfl) (fun _ _ _ h => h) (Or.inl ⟨by rfl, ?_⟩) (by assumption) ?_
    rotate_left 1
    · (intro w hSw; (try dsimp only at hSw); go_simp; try with_reducible rfl)
    try simp only [Act.put, List.setIfInBounds_toArray, List.set_cons_zero, List.set_cons_succ]
    refine wpAnyH_take (i := 12) (v := ?_) (by simp only [List.getElem?_toArray, List.getElem?_cons_succ, List.getElem?_cons_zero]; rfl) (by kernel_rfl) (by kernel_rfl) (by kernel_rfl) (fun _ _ _ h => h) (Or.inl ⟨by rfl, ?_⟩) (by assumption) ?_
    rotate_left 1
    · (intro w hSw; (try dsimp only at hSw); go_simp; try with_reducible rfl)
    try simp only [Act.put, List.setIfInBounds_toArray, List.set_cons_zero, List.set_cons_succ]
    refine wpAnyH_take (i := 13) (v := ?_) (by simp only [List.getElem?_toArray, List.getElem?_cons_succ, List.getElem?_cons_zero]; rfl) (by kernel_rfl) (by kernel_rfl) (by kernel_rfl) (fun _ _ _ h => h) (Or.inl ⟨by rfl, ?_⟩) (by assumption) ?_
    rotate_left 1
    · (intro w hSw; (try dsimp only at hSw); go_simp; try with_reducible rfl)
    try simp only [Act.put, List.setIfInBounds_toArray, List.set_cons_zero, List.set_cons_succ]
    refine wpAnyH_take (i := 14) (v := ?_) (by simp only [List.getElem?_toArray, List.getElem?_cons_succ, List.getElem?_cons_zero]; rfl) (by kernel_rfl) (by kernel_rfl) (by kernel_rfl) (fun _ _ _ h => h) (Or.inl ⟨by rfl, ?_⟩) (by assumption) ?_
    rotate_left 1
    · (intro w hSw; (try dsimp only at hSw); go_simp; try with_reducible rfl)
    try simp only [Act.put, List.setIfInBounds_toArray, List.set_cons_zero, List.set_cons_succ]
    refine wpAnyH_take (i := 15) (v := ?_) (by simp only [List.getElem?_toArray, List.getElem?_cons_succ, List.getElem?_cons_zero]; rfl) (by kernel_rfl) (by kernel_rfl) (by kernel_rfl) (fun _ _ _ h => h) (Or.inl ⟨by rfl, ?_⟩) (by assumption) ?_
    rotate_left 1
    · (intro w hSw; (try dsimp only at hSw); go_simp; try with_reducible rfl)
    try simp only [Act.put, List.setIfInBounds_toArray, List.set_cons_zero, List.set_cons_succ]
    refine wpAnyH_take (i := 16) (v := ?_) (by simp only [List.getElem?_toArray, List.getElem?_cons_succ, List.getElem?_cons_zero]; rfl) (by kernel_rfl) (by kernel_rfl) (by kernel_rfl) (fun _ _ _ h => h) (Or.inl ⟨by rfl, ?_⟩) (by assumption) ?_
    rotate_left 1
    · (intro w hSw; (try dsimp only at hSw); go_simp; try with_reducible rfl)
    try simp only [Act.put, List.setIfInBounds_toArray, List.set_cons_zero, List.set_cons_succ]
    refine wpAnyH_done (by kernel_rfl) ?_ _
    refine NoPanic.normal ?_
    go_wp2_with fail
    go_ret
    exact ⟨rfl, B6.out.trans (B7.out.mono B6.out.size)⟩
theorem blocks_all (e c n f : Int) (A : Option Addr) (m k : Nat) (l : List UInt8) (w : World) (h : By w w.heap.size A m l) (hk : m ≤ k) :
    Calls Try.prog 3 #[ptV e c n f, .slice A m k] w fun r w' => r = .returned (.bool true) ∧ Below w.heap.size w w' := by
  by_cases hm : m ≤ 500
  · exact blocks_small e c n f A m k l w h hm hk
  · exact blocks_big e c n f A m k w (by omega)
end Go.Proofs.Ytfaingklglelnaa
