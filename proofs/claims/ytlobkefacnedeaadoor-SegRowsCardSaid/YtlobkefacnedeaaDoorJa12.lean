import Derived.Test.YtlobkefacnedeaaDoorJa02
import Derived.Test.YtlobkefacnedeaaDoorJa11
import Derived.Test.YtlobkefacnedeaaDoorJa05
import Derived.SizedLaws
set_option linter.unusedVariables false
set_option linter.unusedSimpArgs false
/- The walk over marlref06.Same: two summaries, all words. (Printed by gen_same.py.) -/
namespace Go.Proofs.YtlobkefacnedeaaDoor
open Go.RowKit
set_option maxRecDepth 100000
attribute [local go_sem ↓] Go.wp_at_zero Go.wp_at_succ

/-- What Same asks. -/
def sameQ (e c i p x e' c' i' p' x' : Int) (fs gs : List FI) (is js : List Int) : Prop := (e = e' ∧ c = c' ∧ i = i' ∧ p = p' ∧ x = x') ∧ fs = gs ∧ is = js
instance (e c i p x e' c' i' p' x' : Int) (fs gs : List FI) (is js : List Int) : Decidable (sameQ e c i p x e' c' i' p' x' fs gs is js) := by unfold sameQ; infer_instance
theorem take_snoc_eq {α : Type} {l m : List α} {j : Nat} {x y : α} (h : l.take j = m.take j) (hx : l[j]? = some x) (hy : m[j]? = some y) (e : x = y) : l.take (j + 1) = m.take (j + 1) := by
  rw [List.take_add_one, List.take_add_one, h, hx, hy, e]
theorem ne_at {α : Type} {l m : List α} {j : Nat} {x y : α} (hx : l[j]? = some x) (hy : m[j]? = some y) (e : x ≠ y) : l ≠ m := fun h => by rw [h, hy] at hx; exact e (Option.some.inj hx).symm
set_option maxRecDepth 100000 in
set_option maxHeartbeats 4000000 in
theorem same_any (e c i p x e' c' i' p' x' : Int) (A1 A2 B1 B2 : Option Addr) (n1 c1 n2 c2 m1 d1 m2 d2 lo base lo' base' lo2 base2 lo2' base2' : Nat) (fs gs : List FI) (is js : List Int) (w : World)
    (hf : FisAt lo base w A1 n1 fs) (hg : FisAt lo' base' w B1 m1 gs) (hi : IntsAt lo2 base2 w A2 n2 is) (hj : IntsAt lo2' base2' w B2 m2 js)
    (hn1 : n1 ≤ 1000000) (hm1 : m1 ≤ 1000000) (hn2 : n2 ≤ 1000000) (hm2 : m2 ≤ 1000000) (hfl : ∀ f ∈ fs, f.ls.length ≤ 1000000) (hgl : ∀ f ∈ gs, f.ls.length ≤ 1000000) :
    Calls Tryd.prog 35 #[.agg (partC e c i p x A1 n1 c1 A2 n2 c2), .agg (partC e' c' i' p' x' B1 m1 d1 B2 m2 d2)] w fun r w' => r = .returned (.bool (decide (sameQ e c i p x e' c' i' p' x' fs gs is js))) ∧ Below w.heap.size w w' := by
  have HE := hide (show ∀ b : Bool, (sameQ e c i p x e' c' i' p' x' fs gs is js ↔ b = true) → decide (sameQ e c i p x e' c' i' p' x' fs gs is js) = b from fun b hb => by
    cases b with
    | true => exact decide_eq_true (hb.2 rfl)
    | false => exact decide_eq_false (fun h => by have := hb.1 h; cases this))
  have HNO := hide (show ¬ sameQ e c i p x e' c' i' p' x' fs gs is js → decide (sameQ e c i p x e' c' i' p' x' fs gs is js) = false from fun h => decide_eq_false h)
  have HYES := hide (show sameQ e c i p x e' c' i' p' x' fs gs is js → decide (sameQ e c i p x e' c' i' p' x' fs gs is js) = true from fun h => decide_eq_true h)
  have HF := hide hf
  have HG := hide hg
  have HI := hide hi
  have HJ := hide hj
  have HFL := hide hfl
  have HGL := hide hgl
  have HL1 := hide hf.len
  have HL2 := hide hg.len
  clear hf hg hi hj hfl hgl HE
  unfold partC
  by_cases h0 : e = e'
  rotate_left
  · go_enter Tryd.func35, Tryd.ntmps35
    go_wp2_with fail
    go_ret
    exact ⟨by rw [HNO.out (fun h => h0 (h.1.1))]; rfl, ((Below.refl _ _).alloc (Nat.le_refl _) _).alloc (by simp) _⟩
  by_cases h1 : c = c'
  rotate_left
  · go_enter Tryd.func35, Tryd.ntmps35
    go_wp2_with fail
    go_ret
    exact ⟨by rw [HNO.out (fun h => h1 (h.1.2.1))]; rfl, ((Below.refl _ _).alloc (Nat.le_refl _) _).alloc (by simp) _⟩
  by_cases h2 : i = i'
  rotate_left
  · go_enter Tryd.func35, Tryd.ntmps35
    go_wp2_with fail
    go_ret
    exact ⟨by rw [HNO.out (fun h => h2 (h.1.2.2.1))]; rfl, ((Below.refl _ _).alloc (Nat.le_refl _) _).alloc (by simp) _⟩
  by_cases h3 : p = p'
  rotate_left
  · go_enter Tryd.func35, Tryd.ntmps35
    go_wp2_with fail
    go_ret
    exact ⟨by rw [HNO.out (fun h => h3 (h.1.2.2.2.1))]; rfl, ((Below.refl _ _).alloc (Nat.le_refl _) _).alloc (by simp) _⟩
  by_cases h4 : x = x'
  rotate_left
  · go_enter Tryd.func35, Tryd.ntmps35
    go_wp2_with fail
    go_ret
    exact ⟨by rw [HNO.out (fun h => h4 (h.1.2.2.2.2))]; rfl, ((Below.refl _ _).alloc (Nat.le_refl _) _).alloc (by simp) _⟩
  subst h0 h1 h2 h3 h4
  by_cases h5 : n1 = m1
  rotate_left
  · have h5' : ¬ (n1 : Int) = (m1 : Int) := by omega
    go_enter Tryd.func35, Tryd.ntmps35
    go_wp2_with fail
    go_ret
    exact ⟨by rw [HNO.out (fun h => h5 (by rw [← HL1.out, ← HL2.out, h.2.1]))]; rfl, ((Below.refl _ _).alloc (Nat.le_refl _) _).alloc (by simp) _⟩
  subst h5
  obtain ⟨w2, hw2⟩ : ∃ W, W = ((w.alloc (.cells #[.int .i64 e, .int .i64 c, .int .i64 i, .int .i64 p, .int .i64 x, .slice A1 n1 c1, .slice A2 n2 c2] 25)).alloc (.cells #[.int .i64 e, .int .i64 c, .int .i64 i, .int .i64 p, .int .i64 x, .slice B1 n1 d1, .slice B2 m2 d2] 25)) := ⟨_, rfl⟩
  have KA : Hid (Blk w2 w.heap.size 25 #[.int .i64 e, .int .i64 c, .int .i64 i, .int .i64 p, .int .i64 x, .slice A1 n1 c1, .slice A2 n2 c2]) := hide (by rw [hw2]; exact (Blk.new _ _ _).alloc _)
  have KB : Hid (Blk w2 (w.heap.size + 1) 25 #[.int .i64 e, .int .i64 c, .int .i64 i, .int .i64 p, .int .i64 x, .slice B1 n1 d1, .slice B2 m2 d2]) := hide (by
    rw [hw2]
    have := Blk.new (w.alloc (.cells #[.int .i64 e, .int .i64 c, .int .i64 i, .int .i64 p, .int .i64 x, .slice A1 n1 c1, .slice A2 n2 c2] 25)) 25 #[.int .i64 e, .int .i64 c, .int .i64 i, .int .i64 p, .int .i64 x, .slice B1 n1 d1, .slice B2 m2 d2]
    rwa [World.size_alloc] at this)
  have BW : Hid (Below w.heap.size w w2) := hide (by rw [hw2]; exact ((Below.refl _ _).alloc (Nat.le_refl _) _).alloc (by simp) _)
  go_enter Tryd.func35, Tryd.ntmps35
  go_wp2_with fail
  rw [← hw2]
  clear hw2
  refine (ints_any A2 B2 n2 m2 c2 d2 _ _ is js w2 (RwAt.below HI.out BW.out).sl (RwAt.below HJ.out BW.out).sl (Nat.le_refl _) (Nat.le_refl _) hn2 hm2).mono ?_
  rintro r w3 ⟨rfl, hb⟩
  have B3 := hide hb
  clear hb
  by_cases h6 : is = js
  rotate_left
  · have hd := hide (show decide (is = js) = false from decide_eq_false h6)
    rw [hd.out]
    go_wp2_with fail
    go_ret
    exact ⟨by rw [HNO.out (fun h => h6 h.2.2)]; rfl, BW.out.trans (B3.out.mono BW.out.size)⟩
  have hd := hide (show decide (is = js) = true from decide_eq_true h6)
  rw [hd.out]
  have a5 := (KA.out.below B3.out).cell 5
  simp only [List.getElem?_toArray, List.getElem?_cons_succ, List.getElem?_cons_zero] at a5
  go_wp2_with fail
  have B23 := hide (BW.out.trans (B3.out.mono BW.out.size))
  clear a5
  go_loopw [59] (fun y wr => ∃ j : Nat, j ≤ n1 ∧ y = .int .i64 (j : Int) ∧ fs.take j = gs.take j ∧ Below w2.heap.size w2 wr) (fun y _ => n1 - (intOf y).toNat)
  case atStart => exact ⟨0, Nat.zero_le _, rfl, rfl, B3.out⟩
  case round =>
    obtain ⟨j, hj, rfl, htk, hb⟩ := hrel
    have Hb := hide hb
    have HT := hide htk
    have BR := hide (BW.out.trans (hb.mono BW.out.size))
    clear hb htk
    by_cases hlt : j < n1
    · obtain ⟨b, off, f, A3, c3, hA, hFr, hfi, hI3, q0, q1, q2⟩ := (HF.out.below BR.out).at hlt
      obtain ⟨b', off', g, B3', d3, hB, hFr', hgi, hJ3, r0, r1, r2⟩ := (HG.out.below BR.out).at (show j < n1 by omega)
      subst hA hB
      have hl3 : f.ls.length ≤ 1000000 := HFL.out f (List.mem_of_getElem? hfi)
      have hl4 : g.ls.length ≤ 1000000 := HGL.out g (List.mem_of_getElem? hgi)
      have HFI := hide hfi
      have HGI := hide hgi
      have HI3 := hide hI3
      have HJ3 := hide hJ3
      have HL3 := hide hl3
      have HL4 := hide hl4
      have LT0 := hide hFr.2.1
      have LT1 := hide hFr'.2.1
      have CC := hide (fun (w' : World) (hb : Below wr.heap.size wr w') => show w'.cell? ⟨w.heap.size, 5, none⟩ = some (.slice (some ⟨b, off, none⟩) n1 c1) ∧ w'.cell? ⟨w.heap.size + 1, 5, none⟩ = some (.slice (some ⟨b', off', none⟩) n1 d1) ∧
          w'.cell? ⟨b, off + j * 3, none⟩ = some (.int .i64 f.ino) ∧ w'.cell? ⟨b, off + j * 3 + 1, none⟩ = some (.int .i64 f.ver) ∧ w'.cell? ⟨b, off + j * 3 + 2, none⟩ = some (.slice A3 f.ls.length c3) ∧
          w'.cell? ⟨b', off' + j * 3, none⟩ = some (.int .i64 g.ino) ∧ w'.cell? ⟨b', off' + j * 3 + 1, none⟩ = some (.int .i64 g.ver) ∧ w'.cell? ⟨b', off' + j * 3 + 2, none⟩ = some (.slice B3' g.ls.length d3) from
        ⟨((KA.out.below Hb.out).below hb).cell 5, ((KB.out.below Hb.out).below hb).cell 5, (hb.cell (p := ⟨b, off + j * 3, none⟩) LT0.out).trans q0, (hb.cell (p := ⟨b, off + j * 3 + 1, none⟩) LT0.out).trans q1, (hb.cell (p := ⟨b, off + j * 3 + 2, none⟩) LT0.out).trans q2,
         (hb.cell (p := ⟨b', off' + j * 3, none⟩) LT1.out).trans r0, (hb.cell (p := ⟨b', off' + j * 3 + 1, none⟩) LT1.out).trans r1, (hb.cell (p := ⟨b', off' + j * 3 + 2, none⟩) LT1.out).trans r2⟩)
      have HFE := hide (show f = ⟨f.ino, f.ver, f.ls⟩ from rfl)
      obtain ⟨x0, hx0⟩ : ∃ z, z = f.ino := ⟨_, rfl⟩
      obtain ⟨x1, hx1⟩ : ∃ z, z = f.ver := ⟨_, rfl⟩
      obtain ⟨x2, hx2⟩ : ∃ z, z = f.ls := ⟨_, rfl⟩
      obtain ⟨y0, hy0⟩ : ∃ z, z = g.ino := ⟨_, rfl⟩
      obtain ⟨y1, hy1⟩ : ∃ z, z = g.ver := ⟨_, rfl⟩
      obtain ⟨y2, hy2⟩ : ∃ z, z = g.ls := ⟨_, rfl⟩
      obtain ⟨u2, hu2⟩ : ∃ z, z = f.ls.length := ⟨_, rfl⟩
      obtain ⟨v2, hv2⟩ : ∃ z, z = g.ls.length := ⟨_, rfl⟩
      have HEF := hide (show f = ⟨x0, x1, x2⟩ by rw [hx0, hx1, hx2])
      have HEG := hide (show g = ⟨y0, y1, y2⟩ by rw [hy0, hy1, hy2])
      rw [← hu2] at HL3 HI3
      rw [← hv2] at HL4 HJ3
      rw [← hx2] at HI3
      rw [← hy2] at HJ3
      rw [← hx0, ← hx1, ← hu2, ← hy0, ← hy1, ← hv2] at CC
      rw [HEF.out] at HFI
      rw [HEG.out] at HGI
      clear hFr hFr' hfi hgi hI3 hJ3 q0 q1 q2 r0 r1 r2 hl3 hl4 HFE hx0 hx1 hx2 hy0 hy1 hy2 hu2 hv2 HEF HEG
      clear f g
      have hjs : (j : Int) < (n1 : Int) := by omega
      have hw64 : IntKind.i64.wrap (j : Int) = (j : Int) := by rw [IntKind.wrap_i64]; omega
      by_cases h7 : x0 = y0
      rotate_left
      · have hd7 := hide (show (x0 != y0) = true from bne_iff_ne.2 h7)
        go_wp2_with fail
        have s0 := CC.out _ (Below.refl _ _).drew
        refine wp_region_noPanic ?_
        refine wp_region_held_drew (S := (fun w' => w'.cell? ⟨w.heap.size, 5, none⟩ = some (.slice (some ⟨b, off, none⟩) n1 c1) ∧ w'.cell? ⟨w.heap.size + 1, 5, none⟩ = some (.slice (some ⟨b', off', none⟩) n1 d1) ∧ w'.cell? ⟨b, off + j * 3, none⟩ = some (.int .i64 x0) ∧ w'.cell? ⟨b, off + j * 3 + 1, none⟩ = some (.int .i64 x1) ∧ w'.cell? ⟨b, off + j * 3 + 2, none⟩ = some (.slice A3 u2 c3) ∧ w'.cell? ⟨b', off' + j * 3, none⟩ = some (.int .i64 y0) ∧ w'.cell? ⟨b', off' + j * 3 + 1, none⟩ = some (.int .i64 y1) ∧ w'.cell? ⟨b', off' + j * 3 + 2, none⟩ = some (.slice B3' v2 d3))) (by kernel_rfl) ?_ (fun hHeld => ?_)
        · ((try dsimp only) <;> (first | trivial | assumption | go_keep))
        clear s0
        have BD := hide ((Below.refl wr.heap.size wr).drew)
        refine tk 0 ?_
        refine tk 1 ?_
        refine tk 2 ?_
        refine tk 3 ?_
        refine tk 4 ?_
        refine tk 5 ?_
        refine tk 6 ?_
        refine tk 7 ?_
        refine tk 8 ?_
        refine tk 9 ?_
        refine tk 10 ?_
        refine tk 11 ?_
        refine tk 12 ?_
        try simp only [hd7.out]
        refine tk 13 ?_
        refine sk 14 ?_
        refine sk 15 ?_
        refine sk 16 ?_
        refine sk 17 ?_
        refine sk 18 ?_
        refine sk 19 ?_
        refine sk 20 ?_
        refine sk 21 ?_
        refine sk 22 ?_
        refine sk 23 ?_
        refine sk 24 ?_
        refine sk 25 ?_
        refine sk 26 ?_
        refine tk 27 ?_
        refine tk 28 ?_
        refine sk 29 ?_
        refine sk 30 ?_
        refine sk 31 ?_
        refine sk 32 ?_
        refine sk 33 ?_
        refine sk 34 ?_
        refine sk 35 ?_
        refine sk 36 ?_
        refine sk 37 ?_
        refine sk 38 ?_
        refine sk 39 ?_
        refine sk 40 ?_
        refine sk 41 ?_
        refine sk 42 ?_
        refine tk 43 ?_
        refine wpAnyH_done (by kernel_rfl) ?_ _
        refine NoPanic.normal ?_
        go_wp2_with fail
        go_ret
        exact ⟨by rw [HNO.out (fun h => ne_at HFI.out HGI.out (by simp [h7]) h.2.1)]; rfl, BR.out.trans (BD.out.mono BR.out.size)⟩
      have hd7 := hide (show (x0 != y0) = false from by rw [h7]; exact bne_self_eq_false _)
      by_cases h8 : x1 = y1
      rotate_left
      · have hd8 := hide (show (x1 != y1) = true from bne_iff_ne.2 h8)
        go_wp2_with fail
        have s0 := CC.out _ (Below.refl _ _).drew
        refine wp_region_noPanic ?_
        refine wp_region_held_drew (S := (fun w' => w'.cell? ⟨w.heap.size, 5, none⟩ = some (.slice (some ⟨b, off, none⟩) n1 c1) ∧ w'.cell? ⟨w.heap.size + 1, 5, none⟩ = some (.slice (some ⟨b', off', none⟩) n1 d1) ∧ w'.cell? ⟨b, off + j * 3, none⟩ = some (.int .i64 x0) ∧ w'.cell? ⟨b, off + j * 3 + 1, none⟩ = some (.int .i64 x1) ∧ w'.cell? ⟨b, off + j * 3 + 2, none⟩ = some (.slice A3 u2 c3) ∧ w'.cell? ⟨b', off' + j * 3, none⟩ = some (.int .i64 y0) ∧ w'.cell? ⟨b', off' + j * 3 + 1, none⟩ = some (.int .i64 y1) ∧ w'.cell? ⟨b', off' + j * 3 + 2, none⟩ = some (.slice B3' v2 d3))) (by kernel_rfl) ?_ (fun hHeld => ?_)
        · ((try dsimp only) <;> (first | trivial | assumption | go_keep))
        clear s0
        have BD := hide ((Below.refl wr.heap.size wr).drew)
        refine tk 0 ?_
        refine tk 1 ?_
        refine tk 2 ?_
        refine tk 3 ?_
        refine tk 4 ?_
        refine tk 5 ?_
        refine tk 6 ?_
        refine tk 7 ?_
        refine tk 8 ?_
        refine tk 9 ?_
        refine tk 10 ?_
        refine tk 11 ?_
        refine tk 12 ?_
        try simp only [hd7.out]
        refine tk 13 ?_
        refine tk 14 ?_
        refine tk 15 ?_
        refine tk 16 ?_
        refine tk 17 ?_
        refine tk 18 ?_
        refine tk 19 ?_
        refine tk 20 ?_
        refine tk 21 ?_
        refine tk 22 ?_
        refine tk 23 ?_
        refine tk 24 ?_
        refine tk 25 ?_
        refine tk 26 ?_
        try simp only [hd8.out]
        refine tk 27 ?_
        refine tk 28 ?_
        refine sk 29 ?_
        refine sk 30 ?_
        refine sk 31 ?_
        refine sk 32 ?_
        refine sk 33 ?_
        refine sk 34 ?_
        refine sk 35 ?_
        refine sk 36 ?_
        refine sk 37 ?_
        refine sk 38 ?_
        refine sk 39 ?_
        refine sk 40 ?_
        refine sk 41 ?_
        refine sk 42 ?_
        refine tk 43 ?_
        refine wpAnyH_done (by kernel_rfl) ?_ _
        refine NoPanic.normal ?_
        go_wp2_with fail
        go_ret
        exact ⟨by rw [HNO.out (fun h => ne_at HFI.out HGI.out (by simp [h8]) h.2.1)]; rfl, BR.out.trans (BD.out.mono BR.out.size)⟩
      have hd8 := hide (show (x1 != y1) = false from by rw [h8]; exact bne_self_eq_false _)
      by_cases h9 : x2 = y2
      rotate_left
      · have hd9 := hide (show decide (x2 = y2) = false from decide_eq_false h9)
        go_wp2_with fail
        have s0 := CC.out _ (Below.refl _ _).drew
        refine wp_region_noPanic ?_
        refine wp_region_held_drew (S := (fun w' => w'.cell? ⟨w.heap.size, 5, none⟩ = some (.slice (some ⟨b, off, none⟩) n1 c1) ∧ w'.cell? ⟨w.heap.size + 1, 5, none⟩ = some (.slice (some ⟨b', off', none⟩) n1 d1) ∧ w'.cell? ⟨b, off + j * 3, none⟩ = some (.int .i64 x0) ∧ w'.cell? ⟨b, off + j * 3 + 1, none⟩ = some (.int .i64 x1) ∧ w'.cell? ⟨b, off + j * 3 + 2, none⟩ = some (.slice A3 u2 c3) ∧ w'.cell? ⟨b', off' + j * 3, none⟩ = some (.int .i64 y0) ∧ w'.cell? ⟨b', off' + j * 3 + 1, none⟩ = some (.int .i64 y1) ∧ w'.cell? ⟨b', off' + j * 3 + 2, none⟩ = some (.slice B3' v2 d3))) (by kernel_rfl) ?_ (fun hHeld => ?_)
        · ((try dsimp only) <;> (first | trivial | assumption | go_keep))
        clear s0
        have BD := hide ((Below.refl wr.heap.size wr).drew)
        refine tk 0 ?_
        refine tk 1 ?_
        refine tk 2 ?_
        refine tk 3 ?_
        refine tk 4 ?_
        refine tk 5 ?_
        refine tk 6 ?_
        refine tk 7 ?_
        refine tk 8 ?_
        refine tk 9 ?_
        refine tk 10 ?_
        refine tk 11 ?_
        refine tk 12 ?_
        try simp only [hd7.out]
        refine tk 13 ?_
        refine tk 14 ?_
        refine tk 15 ?_
        refine tk 16 ?_
        refine tk 17 ?_
        refine tk 18 ?_
        refine tk 19 ?_
        refine tk 20 ?_
        refine tk 21 ?_
        refine tk 22 ?_
        refine tk 23 ?_
        refine tk 24 ?_
        refine tk 25 ?_
        refine tk 26 ?_
        try simp only [hd8.out]
        refine tk 27 ?_
        refine tk 28 ?_
        refine tk 29 ?_
        refine tk 30 ?_
        refine tk 31 ?_
        refine tk 32 ?_
        refine tk 33 ?_
        refine tk 34 ?_
        refine tk 35 ?_
        refine tk 36 ?_
        refine tk 37 ?_
        refine tk 38 ?_
        refine tk 39 ?_
        refine tk 40 ?_
        refine wpAnyH_ready (rs := [41]) (by kernel_rfl) (by simp) ?_
        refine AllReadyH.cons (by simp only [List.getElem?_toArray, List.getElem?_cons_succ, List.getElem?_cons_zero]; rfl) (fun K hK => ?_) ?_
        rotate_left 1
        · exact AllReadyH.nil
        go_simp
        refine (ints_any A3 B3' u2 v2 c3 d3 _ _ x2 y2 _ (RwAt.below HI3.out BD.out).sl (RwAt.below HJ3.out BD.out).sl (Nat.le_refl _) (Nat.le_refl _) HL3.out HL4.out).mono ?_; rintro r w5 ⟨rfl, hb⟩; have B5 := hide (BD.out.trans (hb.mono BD.out.size)); clear hb; go_wp2_with fail
        refine hK.out _ _ ?_ (fun hHeld2 => ?_)
        · ((try dsimp only) <;> (exact CC.out _ B5.out))
        clear hHeld
        have hHeld := hHeld2
        clear hHeld2 hK K
        try simp only [Act.put, List.setIfInBounds_toArray, List.set_cons_zero, List.set_cons_succ]
        try simp only [hd9.out]
        refine tk 42 ?_
        refine tk 43 ?_
        refine wpAnyH_done (by kernel_rfl) ?_ _
        refine NoPanic.normal ?_
        go_wp2_with fail
        go_ret
        exact ⟨by rw [HNO.out (fun h => ne_at HFI.out HGI.out (by simp [h9]) h.2.1)]; rfl, BR.out.trans (B5.out.mono BR.out.size)⟩
      have hd9 := hide (show decide (x2 = y2) = true from decide_eq_true h9)
      go_wp2_with fail
      have s0 := CC.out _ (Below.refl _ _).drew
      refine wp_region_noPanic ?_
      refine wp_region_held_drew (S := (fun w' => w'.cell? ⟨w.heap.size, 5, none⟩ = some (.slice (some ⟨b, off, none⟩) n1 c1) ∧ w'.cell? ⟨w.heap.size + 1, 5, none⟩ = some (.slice (some ⟨b', off', none⟩) n1 d1) ∧ w'.cell? ⟨b, off + j * 3, none⟩ = some (.int .i64 x0) ∧ w'.cell? ⟨b, off + j * 3 + 1, none⟩ = some (.int .i64 x1) ∧ w'.cell? ⟨b, off + j * 3 + 2, none⟩ = some (.slice A3 u2 c3) ∧ w'.cell? ⟨b', off' + j * 3, none⟩ = some (.int .i64 y0) ∧ w'.cell? ⟨b', off' + j * 3 + 1, none⟩ = some (.int .i64 y1) ∧ w'.cell? ⟨b', off' + j * 3 + 2, none⟩ = some (.slice B3' v2 d3))) (by kernel_rfl) ?_ (fun hHeld => ?_)
      · ((try dsimp only) <;> (first | trivial | assumption | go_keep))
      clear s0
      have BD := hide ((Below.refl wr.heap.size wr).drew)
      refine tk 0 ?_
      refine tk 1 ?_
      refine tk 2 ?_
      refine tk 3 ?_
      refine tk 4 ?_
      refine tk 5 ?_
      refine tk 6 ?_
      refine tk 7 ?_
      refine tk 8 ?_
      refine tk 9 ?_
      refine tk 10 ?_
      refine tk 11 ?_
      refine tk 12 ?_
      try simp only [hd7.out]
      refine tk 13 ?_
      refine tk 14 ?_
      refine tk 15 ?_
      refine tk 16 ?_
      refine tk 17 ?_
      refine tk 18 ?_
      refine tk 19 ?_
      refine tk 20 ?_
      refine tk 21 ?_
      refine tk 22 ?_
      refine tk 23 ?_
      refine tk 24 ?_
      refine tk 25 ?_
      refine tk 26 ?_
      try simp only [hd8.out]
      refine tk 27 ?_
      refine tk 28 ?_
      refine tk 29 ?_
      refine tk 30 ?_
      refine tk 31 ?_
      refine tk 32 ?_
      refine tk 33 ?_
      refine tk 34 ?_
      refine tk 35 ?_
      refine tk 36 ?_
      refine tk 37 ?_
      refine tk 38 ?_
      refine tk 39 ?_
      refine tk 40 ?_
      refine wpAnyH_ready (rs := [41]) (by kernel_rfl) (by simp) ?_
      refine AllReadyH.cons (by simp only [List.getElem?_toArray, List.getElem?_cons_succ, List.getElem?_cons_zero]; rfl) (fun K hK => ?_) ?_
      rotate_left 1
      · exact AllReadyH.nil
      go_simp
      refine (ints_any A3 B3' u2 v2 c3 d3 _ _ x2 y2 _ (RwAt.below HI3.out BD.out).sl (RwAt.below HJ3.out BD.out).sl (Nat.le_refl _) (Nat.le_refl _) HL3.out HL4.out).mono ?_; rintro r w5 ⟨rfl, hb⟩; have B5 := hide (BD.out.trans (hb.mono BD.out.size)); clear hb; go_wp2_with fail
      refine hK.out _ _ ?_ (fun hHeld2 => ?_)
      · ((try dsimp only) <;> (exact CC.out _ B5.out))
      clear hHeld
      have hHeld := hHeld2
      clear hHeld2 hK K
      try simp only [Act.put, List.setIfInBounds_toArray, List.set_cons_zero, List.set_cons_succ]
      try simp only [hd9.out]
      refine tk 42 ?_
      refine tk 43 ?_
      refine wpAnyH_done (by kernel_rfl) ?_ _
      refine NoPanic.normal ?_
      go_wp2_with fail
      go_roundw
      case rel => exact ⟨j + 1, by omega, by go_num, take_snoc_eq HT.out HFI.out HGI.out (by rw [h7, h8, h9]), Hb.out.trans (B5.out.mono Hb.out.size)⟩
      case measure => simp [intOf]; omega
    · have hjn : j = n1 := by omega
      have hfg : fs = gs := by
        have := HT.out
        rw [hjn] at this
        rw [List.take_of_length_le (by rw [HL1.out]; exact Nat.le_refl _), List.take_of_length_le (by rw [HL2.out]; omega)] at this
        exact this
      have HFG := hide hfg
      clear hfg
      go_wp2_with fail
      go_ret
      exact ⟨by rw [HYES.out ⟨⟨rfl, rfl, rfl, rfl, rfl⟩, HFG.out, h6⟩]; rfl, BR.out⟩
end Go.Proofs.YtlobkefacnedeaaDoor

/- For package seg: marlref06.Same in one word; the reference's parts that the laws meet. -/
namespace Go.Proofs.YtlobkefacnedeaaDoor
open Go.RowKit
set_option maxRecDepth 100000

/-- Same, of two summaries that are known. -/
theorem same_pv (v u : PV) (A1 A2 B1 B2 : Option Addr) (n1 c1 n2 c2 m1 d1 m2 d2 lo base lo' base' lo2 base2 lo2' base2' : Nat) (w : World)
    (hf : FisAt lo base w A1 n1 v.fs) (hg : FisAt lo' base' w B1 m1 u.fs) (hi : IntsAt lo2 base2 w A2 n2 v.is) (hj : IntsAt lo2' base2' w B2 m2 u.is)
    (hn1 : n1 ≤ 1000000) (hm1 : m1 ≤ 1000000) (hn2 : n2 ≤ 1000000) (hm2 : m2 ≤ 1000000) (hfl : ∀ f ∈ v.fs, f.ls.length ≤ 1000000) (hgl : ∀ f ∈ u.fs, f.ls.length ≤ 1000000) :
    Calls Tryd.prog 35 #[.agg (partC v.e v.c v.i v.p v.x A1 n1 c1 A2 n2 c2), .agg (partC u.e u.c u.i u.p u.x B1 m1 d1 B2 m2 d2)] w fun r w' => r = .returned (.bool (decide (v = u))) ∧ Below w.heap.size w w' := by
  refine (same_any v.e v.c v.i v.p v.x u.e u.c u.i u.p u.x A1 A2 B1 B2 n1 c1 n2 c2 m1 d1 m2 d2 lo base lo' base' lo2 base2 lo2' base2' v.fs u.fs v.is u.is w hf hg hi hj hn1 hm1 hn2 hm2 hfl hgl).mono ?_
  rintro r w' ⟨rfl, hb⟩
  refine ⟨?_, hb⟩
  congr 2
  apply decide_eq_decide.2
  unfold sameQ
  constructor
  · rintro ⟨⟨h1, h2, h3, h4, h5⟩, h6, h7⟩
    cases v; cases u
    simp_all
  · rintro rfl
    exact ⟨⟨rfl, rfl, rfl, rfl, rfl⟩, rfl, rfl⟩
end Go.Proofs.YtlobkefacnedeaaDoor

/- The walk of marllaw15.awake. -/
namespace Go.Proofs.YtlobkefacnedeaaDoor
open Go.RowKit
set_option maxRecDepth 100000
attribute [local go_sem ↓] Go.wp_at_zero Go.wp_at_succ

def akV : PV := ⟨1, 2, 0, 1, 8, [], [2, 3]⟩
theorem akV_ck : akV.ck = 0 := by kernel_rfl
theorem akV_n : akV.n = 4 := rfl
theorem fresh_l (n : Nat) : (freshD n).left < 0 := by show (-1 : Int) < 0; omega
theorem fresh_q (n : Nat) : ∀ x ∈ (freshD n).queue, x.1 < (freshD n).sure.length := fun x hx => by cases hx
theorem fresh_len (n : Nat) : (freshD n).sure.length = n := List.length_replicate ..
theorem stepped_s {D : Dsk} (i : Nat) (b : List UInt8) : (D.wrote i b).steps = D.steps + 1 := rfl
theorem putS_steps : ∀ (bs : List (List UInt8)) (D : Dsk) (i : Nat), D.left < 0 → (putS D i bs).2.steps = D.steps + bs.length
  | [], D, _, _ => rfl
  | b :: bs, D, i, h => by
    unfold putS
    rw [if_neg (by omega), putS_steps bs _ _ (wrote_left h i b), stepped_s, List.length_cons]
    omega
theorem barS_steps {D : Dsk} (h : D.left < 0) : (barS D).2.steps = D.steps + 1 := by
  unfold barS
  rw [if_neg (by omega)]
  rfl
theorem wrS_steps {D : Dsk} (h : D.left < 0) (hq : ∀ x ∈ D.queue, x.1 < D.sure.length) {a x : Nat} {v : PV} {bs : List (List UInt8)} (hx : v.x = (x : Int)) (hck : v.ck = 0) (hn : bs.length = v.n - 2) (ha : a + v.n ≤ D.sure.length) (hx2 : x + 2 ≤ D.sure.length) (hd : a + v.n ≤ x ∨ x + 2 ≤ a) (hb : ∀ b ∈ bs, b.length = 64) :
    (wrS D (a : Int) v bs).2.steps = D.steps + bs.length + 6 := by
  have hv := PV.n_bd hck
  unfold wrS
  rw [if_neg (by rw [hck]; decide), if_neg (by unfold fitS; rw [hx]; omega), if_neg (by
    rw [Bool.not_eq_true, List.any_eq_false]
    intro b hbm
    simp [hb b hbm]), Int.toNat_natCast]
  obtain ⟨h1, h2, h3, -⟩ := putS_ok bs D (a + 2) h hq (by omega)
  have s1 := putS_steps bs D (a + 2) h
  rw [andS_ok h1, hx]
  generalize hD1 : (putS D (a + 2) bs).2 = D1 at *
  have l1 : D1.sure.length = D.sure.length := by rw [← hD1, putS_len]
  obtain ⟨c1, c2, c3, -⟩ := clrS_ok h2 h3 (a := x) (by omega)
  have s2 : (clrS D1 (x : Int)).2.steps = D1.steps + 3 := by
    unfold clrS
    rw [if_neg (by omega), Int.toNat_natCast]
    obtain ⟨k1, k2, k3, -⟩ := putS_ok [zero64, zero64] D1 x h2 h3 (by simp only [List.length_cons, List.length_nil]; omega)
    rw [andS_ok k1, barS_steps k2, putS_steps _ _ _ h2]
    rfl
  rw [andS_ok c1]
  generalize hD2 : (clrS D1 (x : Int)).2 = D2 at *
  have l2 : D2.sure.length = D.sure.length := by rw [← hD2, clrS_len, l1]
  obtain ⟨p1, p2, p3, -⟩ := putS_ok [(v.enc (crc bs.flatten)).take 64, (v.enc (crc bs.flatten)).drop 64] D2 a c2 (by rw [c3]; simp) (by simp only [List.length_cons, List.length_nil]; omega)
  rw [andS_ok p1, barS_steps p2, putS_steps _ _ _ c2, s2, s1]
  simp only [List.length_cons, List.length_nil]
theorem andS_len (r : Int × Dsk) (f : Dsk → Int × Dsk) (h : ∀ D, (f D).2.sure.length = D.sure.length) : (andS r f).2.sure.length = r.2.sure.length := by
  unfold andS
  split
  · exact h _
  · rfl
theorem wrS_len (D : Dsk) (a : Int) (v : PV) (bs : List (List UInt8)) : (wrS D a v bs).2.sure.length = D.sure.length := by
  unfold wrS
  split
  · rfl
  · split
    · rfl
    · split
      · rfl
      · rw [andS_len _ _ (fun D => by rw [andS_len _ _ (fun D => by rw [andS_len _ _ barS_len, putS_len]), clrS_len]), putS_len]
theorem rw_blk {w : World} {g lo base n : Nat} {t : TypeId} {l : List Value} (h : Blk w g t l.toArray) (hl : lo ≤ g) (hn : l.length = n) : RwAt lo base t 1 w (some ⟨g, 0, none⟩) n l :=
  ⟨by rw [hn]; omega, fun j u hu => ⟨g, 0, rfl, ⟨hl, h.lt, .inr ⟨_, h⟩⟩, by rw [Nat.zero_add, h.cell]; simpa using hu⟩⟩
theorem RdAns.ok {D : Dsk} {a : Int} {v : PV} {bs : List (List UInt8)} {base : Nat} {r : Ending} {w' : World} (hr : rdS D a = (0, v, bs)) (h : RdAns D a base r w') :
    ∃ B1 d1 B2 d2 A3 c3 gs, r = .returned (.tuple #[.agg (fdC a v B1 d1 B2 d2 A3 bs.length c3), .int .i64 0]) ∧ FdAt base w' v bs B1 B2 A3 c3 gs := by
  unfold RdAns at h
  rw [hr] at h
  dsimp only at h
  rw [if_pos rfl] at h
  exact h
set_option maxHeartbeats 4000000 in
theorem awake15 (w : World) (sp : SpanAt w) : Calls Tryd.prog 9 #[] w fun e w' => e = .returned (.bool true) ∧ Below w.heap.size w w' := by
  have SP := hide sp
  clear sp
  go_enter Tryd.func9, Tryd.ntmps9
  go_wp2_with fail
  refine (ld_new w 10 (by decide) (by decide)).mono ?_
  rintro r w1 ⟨d, rfl, hd⟩
  have L := hide hd
  clear hd
  go_upto_region 5 with fail
  obtain ⟨w2, hw⟩ : ∃ W, W = (w1.alloc (.cells #[.int .i64 2, .int .i64 3] 3)).alloc (.cells #[.int .i64 1, .int .i64 2, .int .i64 0, .int .i64 1, .int .i64 8, .slice none 0 0, .slice (some ⟨w1.heap.size, 0, none⟩) 2 2] 25) := ⟨_, rfl⟩
  have XI : Hid (Blk w2 w1.heap.size 3 (intC [2, 3]).toArray) := hide (by rw [hw]; exact (Blk.new _ _ _).alloc _)
  have X3 : Hid (Blk w2 (w1.heap.size + 1) 25 #[.int .i64 1, .int .i64 2, .int .i64 0, .int .i64 1, .int .i64 8, .slice none 0 0, .slice (some ⟨w1.heap.size, 0, none⟩) 2 2]) := hide (by rw [hw]; have := Blk.new (w1.alloc (.cells #[.int .i64 2, .int .i64 3] 3)) 25 #[.int .i64 1, .int .i64 2, .int .i64 0, .int .i64 1, .int .i64 8, .slice none 0 0, .slice (some ⟨w1.heap.size, 0, none⟩) 2 2]; simpa using this)
  have ba : Below w1.heap.size w1 w2 := by rw [hw]; exact ((Below.refl _ _).alloc (Nat.le_refl _) _).alloc (by simp) _
  rw [← hw]
  obtain ⟨gi, hgi⟩ : ∃ g, g = w1.heap.size := ⟨_, rfl⟩
  have GI := hide (show w.heap.size ≤ gi by rw [hgi]; exact L.out.sz)
  rw [← hgi] at XI X3 ⊢
  obtain ⟨g3, hg3⟩ : ∃ g, g = gi + 1 := ⟨_, rfl⟩
  rw [← hg3] at X3 ⊢
  have G3 := hide (show w.heap.size ≤ g3 by rw [hg3]; exact Nat.le_succ_of_le GI.out)
  replace L := hide (L.out.below ba)
  clear hw hgi hg3 ba
  have hy := op7 X3.out
  refine wp_region_noPanic ?_
  refine wp_region_held_drew (S := (fun w' => w'.cell? ⟨g3, 0, none⟩ = some (.int .i64 1) ∧ w'.cell? ⟨g3, 1, none⟩ = some (.int .i64 2) ∧ w'.cell? ⟨g3, 2, none⟩ = some (.int .i64 0) ∧ w'.cell? ⟨g3, 3, none⟩ = some (.int .i64 1) ∧ w'.cell? ⟨g3, 4, none⟩ = some (.int .i64 8) ∧ w'.cell? ⟨g3, 5, none⟩ = some (.slice none 0 0) ∧ w'.cell? ⟨g3, 6, none⟩ = some (.slice (some ⟨gi, 0, none⟩) 2 2))) (by kernel_rfl) ?_ (fun hHeld => ?_)
  · ((try dsimp only) <;> (first | trivial | assumption | go_keep))
  clear hy
  replace L := hide L.out.drew
  replace XI := hide XI.out.drew
  replace X3 := hide X3.out.drew
  generalize w2.drew = w3 at *
  refine tk 0 ?_
  refine tk 1 ?_
  refine tk 2 ?_
  refine wpAnyH_ready (rs := [3]) (by kernel_rfl) (by simp) ?_
  refine AllReadyH.cons (by simp only [List.getElem?_toArray, List.getElem?_cons_succ, List.getElem?_cons_zero]; rfl) (fun K hK => ?_) ?_
  rotate_left 1
  · exact AllReadyH.nil
  go_simp
  refine hK.out _ _ ?_ (fun hHeld2 => ?_)
  · ((try dsimp only) <;> (first | trivial | assumption | go_keep))
  clear hHeld
  have hHeld := hHeld2
  clear hHeld2 hK K
  try simp only [Act.put, List.setIfInBounds_toArray, List.set_cons_zero, List.set_cons_succ]
  have ba := (Below.refl w3.heap.size w3).alloc (Nat.le_refl _) (.cells #[.int .u8 7] 5)
  have HBY : Hid (By (w3.alloc (.cells #[.int .u8 7] 5)) (w3.alloc (.cells #[.int .u8 7] 5)).heap.size (some ⟨w3.heap.size, 0, none⟩) 1 [7]) := hide (by_blk (l := [7]) (Blk.new w3 5 #[.int .u8 7]) rfl)
  replace L := hide (L.out.below ba)
  replace XI := hide (XI.out.below ba)
  replace X3 := hide (X3.out.below ba)
  obtain ⟨g20, hg⟩ : ∃ g, g = w3.heap.size := ⟨_, rfl⟩
  rw [← hg] at HBY ⊢
  clear ba hg
  generalize w3.alloc (.cells #[.int .u8 7] 5) = w4 at *
  clear hHeld
  have hHeld := op7 X3.out
  have BC := hide (blocks_any akV none (some ⟨gi, 0, none⟩) 0 0 2 2 0 0 (some ⟨g20, 0, none⟩) 1 1 _ [7] w4 FisAt.nil rfl (by decide) (by decide) (by decide) HBY.out (Nat.le_refl _) (by decide) (by decide))
  refine wpAnyH_ready (rs := [4]) (by kernel_rfl) (by simp) ?_
  refine AllReadyH.cons (by simp only [List.getElem?_toArray, List.getElem?_cons_succ, List.getElem?_cons_zero]; rfl) (fun K hK => ?_) ?_
  rotate_left 1
  · exact AllReadyH.nil
  go_simp
  refine BC.out.mono ?_; rintro r w5 ⟨A', c', gs, rfl, hR, hb⟩; have RT := hide hR; have S4 := hide L.out.sz; replace L := hide (L.out.below hb); replace XI := hide (XI.out.below hb); replace X3 := hide (X3.out.below hb); clear hR hb; have hy := op7 X3.out
  refine hK.out _ _ ?_ (fun hHeld2 => ?_)
  · ((try dsimp only) <;> (first | trivial | assumption | go_keep))
  clear hHeld
  have hHeld := hHeld2
  clear hHeld2 hK K
  try simp only [Act.put, List.setIfInBounds_toArray, List.set_cons_zero, List.set_cons_succ]
  clear hHeld BC HBY
  have hHeld := hy
  clear hy
  have hmin : min akV.n 200 - 2 = 2 := rfl
  rw [hmin] at RT ⊢
  clear hmin
  have WC := hide (write_any w w5 d (freshD 10) L.out 3 (by unfold I64; omega) akV none (some ⟨gi, 0, none⟩) 0 0 2 2 0 0 SP.out FisAt.nil (rw_blk XI.out (Nat.zero_le _) rfl) (by decide) (by decide) (by decide) (by intro f hf; cases hf) A' 2 c' (blkS 2 [7]) (RT.out.bq S4.out).bs (by decide) (by decide) (by decide))
  have hW := wrS_ok (D := freshD 10) (a := 3) (x := 8) (v := akV) (bs := blkS 2 [7]) (fresh_l _) (fresh_q _) rfl akV_ck (blkS_len _ _) (by rw [fresh_len]; decide) (by rw [fresh_len]; decide) (by decide) (blkS_64 _ _)
  have hS := wrS_steps (D := freshD 10) (a := 3) (x := 8) (v := akV) (bs := blkS 2 [7]) (fresh_l _) (fresh_q _) rfl akV_ck (blkS_len _ _) (by rw [fresh_len]; decide) (by rw [fresh_len]; decide) (by decide) (blkS_64 _ _)
  have hl := wrS_len (freshD 10) 3 akV (blkS 2 [7])
  have e3 : ((3 : Nat) : Int) = 3 := rfl
  rw [e3] at hW hS
  obtain ⟨R, hR⟩ : ∃ R, R = wrS (freshD 10) 3 akV (blkS 2 [7]) := ⟨_, rfl⟩
  rw [← hR] at WC hW hS hl
  clear hR e3
  obtain ⟨q, E⟩ := R
  obtain ⟨rfl, -, -, hrd⟩ := hW
  dsimp only at hrd hS hl WC
  rw [blkS_len] at hS
  replace hS : E.steps = 8 := hS
  have HRD := hide (rdS_wrS (D := E) (E := E) (a := 3) (v := akV) (bs := blkS 2 [7]) akV_ck (blkS_len _ _) (by rw [hl, fresh_len]; decide) (by rw [hrd]; rfl) (by rw [hrd]; rfl) (fun j hj => by
    rw [hrd, if_neg (by omega), if_neg (by omega), if_pos (by rw [akV_n] at *; omega)]
    congr 1
    omega))
  have e3 : ((3 : Nat) : Int) = 3 := rfl
  rw [e3] at HRD
  have HS := hide hS
  clear hrd hS hl e3
  refine wpAnyH_ready (rs := [5]) (by kernel_rfl) (by simp) ?_
  refine AllReadyH.cons (by simp only [List.getElem?_toArray, List.getElem?_cons_succ, List.getElem?_cons_zero]; rfl) (fun K hK => ?_) ?_
  rotate_left 1
  · exact AllReadyH.nil
  go_simp
  refine WC.out.mono ?_; rintro r w6 ⟨rfl, hst⟩; have K6 := hide (stp_kt L.out hst); have L6 := hide hst.ld; replace XI := hide (XI.out.kt K6.out (by decide)); replace X3 := hide (X3.out.kt K6.out (by decide)); clear hst; have hy := op7 X3.out
  refine hK.out _ _ ?_ (fun hHeld2 => ?_)
  · ((try dsimp only) <;> (first | trivial | assumption | go_keep))
  clear hHeld
  have hHeld := hHeld2
  clear hHeld2 hK K
  try simp only [Act.put, List.setIfInBounds_toArray, List.set_cons_zero, List.set_cons_succ]
  clear hHeld WC K6 RT L S4
  have hHeld := hy
  clear hy
  refine tk 6 ?_
  refine tk 7 ?_
  refine tk 8 ?_
  have SC := ld_steps L6.out
  rw [HS.out] at SC
  refine wpAnyH_ready (rs := [9]) (by kernel_rfl) (by simp) ?_
  refine AllReadyH.cons (by simp only [List.getElem?_toArray, List.getElem?_cons_succ, List.getElem?_cons_zero]; rfl) (fun K hK => ?_) ?_
  rotate_left 1
  · exact AllReadyH.nil
  go_simp
  refine SC.mono ?_; rintro r w7 ⟨rfl, rfl⟩
  refine hK.out _ _ ?_ (fun hHeld2 => ?_)
  · ((try dsimp only) <;> (first | trivial | assumption | go_keep))
  clear hHeld
  have hHeld := hHeld2
  clear hHeld2 hK K
  try simp only [Act.put, List.setIfInBounds_toArray, List.set_cons_zero, List.set_cons_succ]
  clear SC
  refine tk 10 ?_
  refine tk 11 ?_
  refine wpAnyH_done (by kernel_rfl) ?_ _
  refine NoPanic.normal ?_
  clear hHeld
  have RC := hide (read_any w w6 d E L6.out 3 (by unfold I64; omega) SP.out)
  go_wp2_with fail
  refine RC.out.mono ?_
  rintro r w7 ⟨hra, hb⟩
  obtain ⟨B1, d1, B2, d2, A3, c3, gs, rfl, hfd⟩ := hra.ok HRD.out
  have FD := hide hfd
  replace X3 := hide (X3.out.below hb)
  replace XI := hide (XI.out.below hb)
  have BW := hide (L6.out.bel.trans (hb.mono L6.out.sz))
  clear hra hfd hb RC
  have hbl : (blkS 2 [7]).length = 2 := blkS_len _ _
  rw [hbl]
  clear hbl
  unfold fdC
  go_upto_region 8 with fail
  obtain ⟨w8, hw⟩ : ∃ W, W = w7.alloc (.cells #[.int .i64 3, .int .i64 akV.e, .int .i64 akV.c, .int .i64 akV.i, .int .i64 akV.p, .int .i64 akV.x, .slice B1 akV.fs.length d1, .slice B2 akV.is.length d2, .slice A3 2 c3] 39) := ⟨_, rfl⟩
  have ba := (show Below w7.heap.size w7 w8 by rw [hw]; exact (Below.refl _ _).alloc (Nat.le_refl _) _)
  have X4 : Hid (Blk w8 w7.heap.size 39 #[.int .i64 3, .int .i64 akV.e, .int .i64 akV.c, .int .i64 akV.i, .int .i64 akV.p, .int .i64 akV.x, .slice B1 akV.fs.length d1, .slice B2 akV.is.length d2, .slice A3 2 c3]) := hide (by rw [hw]; exact Blk.new _ _ _)
  rw [← hw]
  obtain ⟨g4, hg⟩ : ∃ g, g = w7.heap.size := ⟨_, rfl⟩
  rw [← hg] at X4 ⊢
  replace X3 := hide (X3.out.below ba)
  replace XI := hide (XI.out.below ba)
  replace FD := hide (FD.out.below ba)
  replace BW := hide (BW.out.trans (ba.mono BW.out.size))
  clear hw hg ba
  have SM := hide (same_pv akV akV B1 B2 none (some ⟨gi, 0, none⟩) akV.fs.length d1 akV.is.length d2 0 0 2 2 _ _ 0 0 _ _ 0 0 w8 FD.out.f FisAt.nil FD.out.i (rw_blk XI.out (Nat.zero_le _) rfl) (by decide) (by decide) (by decide) (by decide) (by intro f hf; cases hf) (by intro f hf; cases hf))
  rw [decide_eq_true rfl] at SM
  obtain ⟨y0, y1, y2, y3, y4, y5, y6⟩ := op7 X3.out
  obtain ⟨x0, x1, x2, x3, x4, x5, x6, x7, x8⟩ := op9S X4.out
  go_wp2_with fail
  refine SM.out.mono ?_
  rintro r w9 ⟨rfl, hb⟩
  clear y0 y1 y2 y3 y4 y5 y6 x0 x1 x2 x3 x4 x5 x6 x7 x8
  have x8 := (X4.out.below hb).cell 8
  simp only [List.getElem?_toArray, List.getElem?_cons_succ, List.getElem?_cons_zero] at x8
  have B9 := hide (BW.out.trans (hb.mono BW.out.size))
  clear hb
  go_wp2_with fail
  go_ret
  exact ⟨rfl, B9.out⟩
end Go.Proofs.YtlobkefacnedeaaDoor

/- What an argument's reading says of the cells, with the form's own reach: each slice and text takes at most 140737488351232 bytes. -/
namespace Go.Proofs.YtlobkefacnedeaaDoor
open Go.RowKit Go.WideShapes

def Rz (P : Program) (w : World) : Nat → TypeId → List Value → Prop
  | 0, _, _ => True
  | n + 1, t, cs =>
    match P.underlying t with
    | some (.struct fs) => cs.length = P.cellsOf t ∧ ∀ (j : Nat) (f : Field), fs[j]? = some f → Rz P w n f.type ((cs.drop f.offset).take (P.cellsOf f.type))
    | some (.array k e) => cs.length = P.cellsOf t ∧ ∀ i, i < k → Rz P w n e ((cs.drop (i * P.cellsOf e)).take (P.cellsOf e))
    | some (.int k) => ∃ m, cs = [.int k m] ∧ (Lit.int k m).wf = true
    | some .bool => ∃ b, cs = [.bool b]
    | some .string => ∃ s : ByteArray, cs = [.string s] ∧ s.size ≤ 140737488351232
    | some (.slice e) => cs = [.slice none 0 0] ∨ ∃ a len cap, cs = [.slice (some a) len cap] ∧ len ≤ cap ∧ cap ≤ maxLen ∧ cap * P.bytesOf e ≤ 140737488351232 ∧
        ∀ i, i < len → ∃ cs', cs'.length = P.cellsOf e ∧ (∀ j, j < P.cellsOf e → w.cell? (a.add (i * P.cellsOf e + j)) = cs'[j]?) ∧ Rz P w n e cs'
    | _ => True

theorem Rz.rd {P : Program} {w : World} : ∀ {n : Nat} {t : TypeId} {cs : List Value}, Rz P w n t cs → Rd P w n t cs
  | 0, _, _, _ => trivial
  | n + 1, t, cs, h => by
    unfold Rz at h
    unfold Rd
    split at h
    · rename_i fs ht
      simp only [ht]
      exact ⟨h.1, fun j f hj => (h.2 j f hj).rd⟩
    · rename_i k e ht
      simp only [ht]
      exact ⟨h.1, fun i hi => (h.2 i hi).rd⟩
    · rename_i k ht
      simp only [ht]
      exact h
    · rename_i ht
      simp only [ht]
      exact h
    · rename_i ht
      simp only [ht]
      obtain ⟨s, h1, h2⟩ := h
      exact ⟨s, h1, by simp only [maxLen]; omega⟩
    · rename_i e ht
      simp only [ht]
      rcases h with h | ⟨a, len, cap, h1, h2, h3, _, h4⟩
      · exact .inl h
      · refine .inr ⟨a, len, cap, h1, h2, h3, fun i hi => ?_⟩
        obtain ⟨cs', c1, c2, c3⟩ := h4 i hi
        exact ⟨cs', c1, c2, c3.rd⟩
    · split <;> first | trivial | (exfalso; simp_all)

theorem weightsAll_mem {H : Type} {P : Program} {e : TypeId} : ∀ {ds : List (DataW H)} {i : Nat} {d : DataW H}, ds[i]? = some d → ∀ n ∈ d.weights P e, n ∈ DataW.weightsAll P e ds
  | d0 :: ds, 0, d, hd, n, hn => by
    simp only [List.getElem?_cons_zero, Option.some.injEq] at hd
    subst hd
    simp only [DataW.weightsAll, List.mem_append]
    exact Or.inl hn
  | d0 :: ds, j + 1, d, hd, n, hn => by
    simp only [List.getElem?_cons_succ] at hd
    simp only [DataW.weightsAll, List.mem_append]
    exact Or.inr (weightsAll_mem hd n hn)
  | [], _, _, hd, _, _ => by simp at hd

section
variable {H : Type} {enc : TypeId × Value → H} {P : Program} {w : World} {base : Nat} {held : Bool}
theorem rz_of_trod (n : Nat) : ∀ {fuel : Nat} {t : TypeId} {cs : List Value} {x : DataW H × List MemPlace}, DataW.trod enc P w base (fun _ => true) held fuel t cs = some x → (∀ n ∈ x.1.weights P t, n ≤ 140737488351232) → Rz P w n t cs := by
  induction n with
  | zero => intros; trivial
  | succ n ih =>
    intro fuel t cs x h hw
    unfold Rz
    split
    · rename_i fs ht
      obtain ⟨xs, m, _, rfl, hl, hxl, hf⟩ := DataW.trod_struct ht h
      refine ⟨hl, fun j f hj => ?_⟩
      have h1 := hf j f hj
      have hjl : j < xs.length := by rw [hxl]; exact (Array.getElem?_eq_some_iff.1 hj).1
      rw [List.getElem?_eq_getElem hjl] at h1
      refine ih h1 fun k hk => hw k ?_
      simp only [DataW.weights, ht]
      exact DataW.weights_mem_each (j := j) (t := f.type) (d := (xs[j]).1) (by rw [List.getElem?_map, Array.getElem?_toList, hj]; rfl) (by rw [List.getElem?_map, List.getElem?_eq_getElem hjl]; rfl) k hk
    · rename_i k e ht
      obtain ⟨xs, m, _, rfl, hl, hxl, hf⟩ := DataW.trod_array ht h
      refine ⟨hl, fun i hi => ?_⟩
      have h1 := hf i hi
      rw [List.getElem?_eq_getElem (show i < xs.length by omega)] at h1
      refine ih h1 fun k hk => hw k ?_
      simp only [DataW.weights, ht]
      exact weightsAll_mem (i := i) (d := (xs[i]).1) (by rw [List.getElem?_map, List.getElem?_eq_getElem (show i < xs.length by omega)]; rfl) k hk
    · rename_i k ht
      obtain ⟨m, hcs, _, hw⟩ := DataW.trod_int ht h
      exact ⟨m, hcs, hw⟩
    · rename_i ht
      obtain ⟨b, hcs, _⟩ := DataW.trod_bool ht h
      exact ⟨b, hcs⟩
    · rename_i ht
      obtain ⟨s, hcs, rfl, hs⟩ := DataW.trod_string ht h
      exact ⟨s, hcs, by have := hw s.data.toList.length (by simp [DataW.weights]); simpa using this⟩
    · rename_i e ht
      rcases Go.Deep.open_slice ht h with ⟨h0, _⟩ | ⟨a, len, cap, m, n', D, Pl, hcs, _, hl, hm, hmm, rfl, hi⟩
      · exact .inl h0
      · simp only [if_true] at hmm
        subst hmm
        refine .inr ⟨a, len, m, hcs, hl, hm, ?_, fun i hil => ?_⟩
        · have := hw (m * P.bytesOf e) (by simp [DataW.weights, ht, Nat.add_sub_cancel' hl])
          exact this
        · obtain ⟨cs', hc, ht'⟩ := hi i (by omega)
          obtain ⟨_, hcl, hat⟩ := World.cells?_some hc
          refine ⟨cs', hcl, fun j hj => by rw [← hat j hj, addr_add2], ih ht' fun k hk => hw k ?_⟩
          simp only [DataW.weights, ht, List.mem_cons, List.mem_append]
          exact .inr (.inl (weightsAll_mem (i := i) (d := D i) (by simp [hil]) k hk))
    · trivial
end

/-- So an argument reads. -/
def ArgZ (P : Program) (w : World) (t : TypeId) (v : Value) : Prop :=
  match P.underlying t with
  | some (.struct _) | some (.array _ _) => ∃ cs, v = .agg cs ∧ Rz P w 10 t cs.toList
  | _ => Rz P w 10 t [v]
theorem argz_of {H : Type} {enc : TypeId × Value → H} {P : Program} {w : World} {base : Nat} {held : Bool} {r : Reach} {b : Nat} {t : TypeId} {v : Value} {d : DataW H} {p : List MemPlace} (hv : Value.okWide P w r b t v) (h : DataW.Trod enc P w base (fun _ => true) held t v d p)
    (hw : ∀ n ∈ d.weights P t, n ≤ 140737488351232) : ArgZ P w t v := by
  obtain ⟨fuel, hf⟩ := h
  unfold ArgZ
  split
  · rename_i fs ht
    obtain ⟨cs, rfl, _⟩ := okWide_struct ht hv
    exact ⟨cs, rfl, rz_of_trod 10 hf hw⟩
  · rename_i k e ht
    simp only [Value.okWide, ht] at hv
    obtain ⟨cs, rfl, _⟩ := hv
    exact ⟨cs, rfl, rz_of_trod 10 hf hw⟩
  · rename_i h1 h2
    have hc : v.cells.toList = [v] := by
      cases v with
      | agg cs =>
        exfalso
        unfold Value.okWide at hv
        split at hv
        · rename_i fs hs; exact h1 _ hs
        · rename_i k e hs; exact h2 _ _ hs
        · unfold Cell.okWide at hv
          split at hv <;> first | (simp_all; done) | skip
          unfold Cell.ok at hv
          split at hv <;> simp_all
      | _ => rfl
    rw [hc] at hf
    exact rz_of_trod 10 hf hw
theorem sized_arg {H : Type} {P : Program} {ts : List TypeId} {ds : List (DataW H)} (h : (DataW.weightsEach P ts ds).all (· ≤ reachBytes) = true) (j : Nat) {t : TypeId} {d : DataW H} (ht : ts[j]? = some t) (hd : ds[j]? = some d) : ∀ n ∈ d.weights P t, n ≤ 140737488351232 := fun n hn => by
  have := List.all_eq_true.1 h n (DataW.weights_mem_each ht hd n hn)
  have := of_decide_eq_true this
  simp only [reachBytes] at this
  exact this

section
variable {P : Program} {w : World} {n : Nat} {t : TypeId} {cs : List Value}
theorem argz_one {v : Value} (h : ArgZ P w t v) {d : TypeDesc} (ht : P.underlying t = some d) (hs : ∀ fs, d ≠ .struct fs) (ha : ∀ k e, d ≠ .array k e) : Rz P w 10 t [v] := by
  unfold ArgZ at h
  split at h
  · rename_i fs hf; rw [ht] at hf; exact absurd (Option.some.inj hf) (hs _)
  · rename_i k e hf; rw [ht] at hf; exact absurd (Option.some.inj hf) (ha _ _)
  · exact h
theorem argz_agg {v : Value} (h : ArgZ P w t v) (ht : (∃ fs, P.underlying t = some (.struct fs)) ∨ ∃ k e, P.underlying t = some (.array k e)) : ∃ cs : Array Value, v = .agg cs ∧ Rz P w 10 t cs.toList := by
  unfold ArgZ at h
  rcases ht with ⟨fs, ht⟩ | ⟨k, e, ht⟩ <;> rw [ht] at h <;> exact h
theorem ArgZ.arg {v : Value} (h : ArgZ P w t v) : Arg P w t v := by
  unfold ArgZ at h
  unfold Arg
  split at h
  · rename_i ht; simp only [ht]; obtain ⟨cs, h1, h2⟩ := h; exact ⟨cs, h1, h2.rd⟩
  · rename_i ht; simp only [ht]; obtain ⟨cs, h1, h2⟩ := h; exact ⟨cs, h1, h2.rd⟩
  · split
    · exfalso; simp_all
    · exfalso; simp_all
    · exact h.rd
theorem rz_slice {e : TypeId} (ht : P.underlying t = some (.slice e)) (h : Rz P w (n + 1) t cs) :
    cs = [.slice none 0 0] ∨ ∃ a len cap, cs = [.slice (some a) len cap] ∧ len ≤ cap ∧ cap ≤ maxLen ∧ cap * P.bytesOf e ≤ 140737488351232 ∧
        ∀ i, i < len → ∃ cs', cs'.length = P.cellsOf e ∧ (∀ j, j < P.cellsOf e → w.cell? (a.add (i * P.cellsOf e + j)) = cs'[j]?) ∧ Rz P w n e cs' := by
  unfold Rz at h; rw [ht] at h; exact h
theorem rz_cap {e : TypeId} {A : Option Addr} {len cap : Nat} (ht : P.underlying t = some (.slice e)) (h : Rz P w (n + 1) t [.slice A len cap]) : cap * P.bytesOf e ≤ 140737488351232 := by
  rcases rz_slice ht h with h | ⟨a, l, c, h, _, _, hb, _⟩
  · simp at h; obtain ⟨_, _, rfl⟩ := h; omega
  · simp at h; obtain ⟨_, _, rfl⟩ := h; exact hb
theorem rz_len {fs : Array Field} (ht : P.underlying t = some (.struct fs)) (h : Rz P w (n + 1) t cs) : cs.length = P.cellsOf t := by
  unfold Rz at h; rw [ht] at h; exact h.1
theorem rz_field {fs : Array Field} (ht : P.underlying t = some (.struct fs)) (h : Rz P w (n + 1) t cs) (j : Nat) {u o : Nat} (hj : (fs[j]?).map (fun f => (f.type, f.offset)) = some (u, o)) {c : Nat} (hc : P.cellsOf u = c) :
    Rz P w n u ((cs.drop o).take c) := by
  unfold Rz at h; rw [ht] at h
  cases hf : fs[j]? with
  | none => rw [hf] at hj; cases hj
  | some f =>
    rw [hf] at hj
    simp only [Option.map_some, Option.some.injEq, Prod.mk.injEq] at hj
    have := h.2 j f hf
    rw [hj.1, hj.2, hc] at this
    exact this
/-- A field of one cell. -/
theorem rz_fld {fs : Array Field} (ht : P.underlying t = some (.struct fs)) (h : Rz P w (n + 1) t cs) (j : Nat) {u o : Nat} (hj : (fs[j]?).map (fun f => (f.type, f.offset)) = some (u, o)) (hc : P.cellsOf u = 1) {c : Value} (hcs : cs[o]? = some c) : Rz P w n u [c] := by
  have h1 := rz_field ht h j hj hc
  rwa [take_one hcs] at h1
theorem rz_array {k : Nat} {e : TypeId} (ht : P.underlying t = some (.array k e)) (h : Rz P w (n + 1) t cs) :
    cs.length = P.cellsOf t ∧ ∀ i, i < k → Rz P w n e ((cs.drop (i * P.cellsOf e)).take (P.cellsOf e)) := by
  unfold Rz at h; rw [ht] at h; exact h
/-- A slice of bytes that came in, with its reach. -/
theorem by_of_rz {e : TypeId} {v : Value} (ht : P.underlying t = some (.slice e)) (he : P.underlying e = some (.int .u8)) (hc : P.cellsOf e = 1) (hb : P.bytesOf e = 1) (h : Rz P w (n + 2) t [v]) :
    ∃ A len cap l, v = .slice A len cap ∧ len ≤ cap ∧ cap ≤ 140737488351232 ∧ By w w.heap.size A len l := by
  obtain ⟨A, len, cap, l, rfl, h1, -, h3⟩ := by_of_rd ht he hc h.rd
  have := rz_cap ht h
  exact ⟨A, len, cap, l, rfl, h1, by rw [hb] at this; omega, h3⟩
theorem bools_of_rz {e : TypeId} {v : Value} (ht : P.underlying t = some (.slice e)) (he : P.underlying e = some .bool) (hc : P.cellsOf e = 1) (hb : P.bytesOf e = 1) (h : Rz P w (n + 2) t [v]) :
    ∃ (A : Option Addr) (len cap : Nat) (l : List Bool), v = .slice A len cap ∧ len ≤ cap ∧ cap ≤ 140737488351232 ∧ Sl w w.heap.size A len (l.map Value.bool) := by
  obtain ⟨A, len, cap, l, rfl, h1, -, h3⟩ := bools_of_rd ht he hc h.rd
  have := rz_cap ht h
  exact ⟨A, len, cap, l, rfl, h1, by rw [hb] at this; omega, h3⟩
theorem ints_of_rz {e : TypeId} {k : IntKind} {v : Value} (ht : P.underlying t = some (.slice e)) (he : P.underlying e = some (.int k)) (hc : P.cellsOf e = 1) {b : Nat} (hb : P.bytesOf e = b) (h : Rz P w (n + 2) t [v]) :
    ∃ (A : Option Addr) (len cap : Nat) (l : List Int), v = .slice A len cap ∧ len ≤ cap ∧ cap * b ≤ 140737488351232 ∧ Sl w w.heap.size A len (l.map (Value.int k)) ∧ ∀ x ∈ l, (Lit.int k x).wf = true := by
  obtain ⟨A, len, cap, l, rfl, h1, -, h3, h4⟩ := ints_of_rd ht he hc h.rd
  have := rz_cap ht h
  exact ⟨A, len, cap, l, rfl, h1, by rw [hb] at this; omega, h3, h4⟩
theorem slk_of_rz {k : Nat} {e : TypeId} {v : Value} (ht : P.underlying t = some (.slice e)) (hc : P.cellsOf e = k) (h : Rz P w (n + 1) t [v]) :
    ∃ A len cap rows, v = .slice A len cap ∧ len ≤ cap ∧ cap ≤ 9223372036854775807 ∧ cap * P.bytesOf e ≤ 140737488351232 ∧ SlK w A k len rows ∧ ∀ r ∈ rows, Rz P w n e r := by
  rcases rz_slice ht h with h | ⟨a, len, cap, h, hl, hm, hb, hi⟩
  · simp only [List.cons.injEq, and_true] at h
    exact ⟨none, 0, 0, [], h, Nat.le_refl _, by omega, by omega, ⟨rfl, by simp, by simp⟩, by simp⟩
  · simp only [List.cons.injEq, and_true] at h
    rw [hc] at hi
    obtain ⟨rs, hrl, hr⟩ := list_of (Q := fun i (cs' : List Value) => cs'.length = k ∧ (∀ j, j < k → w.cell? (a.add (i * k + j)) = cs'[j]?) ∧ Rz P w n e cs') len hi
    refine ⟨some a, len, cap, rs, h, hl, by simpa [maxLen] using hm, hb, ⟨hrl, fun i hi => (hr i hi).1, fun i j u hi hu => ?_⟩, fun x hx => ?_⟩
    · rw [List.getElem?_eq_getElem hi, Option.bind_some] at hu
      have hj : j < k := by have := (List.getElem?_eq_some_iff.1 hu).1; rwa [(hr i hi).1] at this
      exact ⟨a, rfl, by rw [(hr i hi).2.1 j hj, hu]⟩
    · obtain ⟨j, hj, rfl⟩ := List.getElem_of_mem hx
      exact (hr j hj).2.2
theorem rz_int {k : IntKind} (ht : P.underlying t = some (.int k)) (h : Rz P w (n + 1) t cs) : ∃ m, cs = [.int k m] ∧ (Lit.int k m).wf = true := by
  unfold Rz at h; rw [ht] at h; exact h
theorem rz_bool (ht : P.underlying t = some .bool) (h : Rz P w (n + 1) t cs) : ∃ b, cs = [.bool b] := by
  unfold Rz at h; rw [ht] at h; exact h
theorem rz_i64 {v : Value} (ht : P.underlying t = some (.int .i64)) (h : Rz P w (n + 1) t [v]) : ∃ m, v = .int .i64 m ∧ -9223372036854775808 ≤ m ∧ m ≤ 9223372036854775807 := by
  obtain ⟨m, hm, hw⟩ := rz_int ht h
  simp only [List.cons.injEq, and_true] at hm
  have := wf_bd_i64 hw
  exact ⟨m, hm, this.1, this.2⟩
end
theorem int_argz {P : Program} {w : World} {t : TypeId} {v : Value} (ht : P.underlying t = some (.int .i64)) (h : ArgZ P w t v) : ∃ n, v = .int .i64 n ∧ -9223372036854775808 ≤ n ∧ n ≤ 9223372036854775807 :=
  int_arg ht h.arg
end Go.Proofs.YtlobkefacnedeaaDoor
