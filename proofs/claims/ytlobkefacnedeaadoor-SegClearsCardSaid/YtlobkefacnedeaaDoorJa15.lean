import Derived.Test.YtlobkefacnedeaaDoorJa13
import Derived.Test.YtlobkefacnedeaaDoorJa14
import Derived.Test.YtlobkefacnedeaaDoorJa02
import Derived.SizedLaws
/- For package seg: marlref06.Same in one word; the reference's parts that the laws meet. -/
namespace Go.Proofs.YtlobkefacnedeaaDoor
open Go.RowKit
set_option maxRecDepth 100000

/-- Same, of two summaries that are known. -/
theorem same_pv (v u : PV) (A1 A2 B1 B2 : Option Addr) (n1 c1 n2 c2 m1 d1 m2 d2 lo base lo' base' lo2 base2 lo2' base2' : Nat) (w : World)
    (hf : FisAt lo base w A1 n1 v.fs) (hg : FisAt lo' base' w B1 m1 u.fs) (hi : IntsAt lo2 base2 w A2 n2 v.is) (hj : IntsAt lo2' base2' w B2 m2 u.is)
    (hn1 : n1 ≤ 1000000) (hm1 : m1 ≤ 1000000) (hn2 : n2 ≤ 1000000) (hm2 : m2 ≤ 1000000) (hfl : ∀ f ∈ v.fs, f.ls.length ≤ 1000000) (hgl : ∀ f ∈ u.fs, f.ls.length ≤ 1000000) :
    Calls Tryd.prog 35 #[.agg (partC v.e v.c v.i v.p v.x A1 n1 c1 A2 n2 c2), .agg (partC u.e u.c u.i u.p u.x B1 m1 d1 B2 m2 d2)] w fun r w' => r = .returned (.bool (decide (v = u))) ∧ Below w.heap.size w w' := by
  refine (same_any v.e v.c v.i v.p v.x u.e u.c u.i u.p u.x A1 A2 B1 B2 n1 c1 n2 c2 m1 d1 m2 d2 lo base lo' base' lo2 base2 lo2' base2' v.fs u.fs v.is u.is w hf hg hi hj hn1 hm1 hn2 hm2 hfl hgl).mono ?_
  rintro r w' ⟨rfl, hb⟩
  refine ⟨?_, hb⟩
  congr 2
  apply decide_eq_decide.2
  unfold sameQ
  constructor
  · rintro ⟨⟨h1, h2, h3, h4, h5⟩, h6, h7⟩
    cases v; cases u
    simp_all
  · rintro rfl
    exact ⟨⟨rfl, rfl, rfl, rfl, rfl⟩, rfl, rfl⟩
end Go.Proofs.YtlobkefacnedeaaDoor

/- The walk of marllaw15.awake. -/
namespace Go.Proofs.YtlobkefacnedeaaDoor
open Go.RowKit
set_option maxRecDepth 100000
attribute [local go_sem ↓] Go.wp_at_zero Go.wp_at_succ

def akV : PV := ⟨1, 2, 0, 1, 8, [], [2, 3]⟩
theorem akV_ck : akV.ck = 0 := by kernel_rfl
theorem akV_n : akV.n = 4 := rfl
theorem fresh_l (n : Nat) : (freshD n).left < 0 := by show (-1 : Int) < 0; omega
theorem fresh_q (n : Nat) : ∀ x ∈ (freshD n).queue, x.1 < (freshD n).sure.length := fun x hx => by cases hx
theorem fresh_len (n : Nat) : (freshD n).sure.length = n := List.length_replicate ..
theorem stepped_s {D : Dsk} (i : Nat) (b : List UInt8) : (D.wrote i b).steps = D.steps + 1 := rfl
theorem putS_steps : ∀ (bs : List (List UInt8)) (D : Dsk) (i : Nat), D.left < 0 → (putS D i bs).2.steps = D.steps + bs.length
  | [], D, _, _ => rfl
  | b :: bs, D, i, h => by
    unfold putS
    rw [if_neg (by omega), putS_steps bs _ _ (wrote_left h i b), stepped_s, List.length_cons]
    omega
theorem barS_steps {D : Dsk} (h : D.left < 0) : (barS D).2.steps = D.steps + 1 := by
  unfold barS
  rw [if_neg (by omega)]
  rfl
theorem wrS_steps {D : Dsk} (h : D.left < 0) (hq : ∀ x ∈ D.queue, x.1 < D.sure.length) {a x : Nat} {v : PV} {bs : List (List UInt8)} (hx : v.x = (x : Int)) (hck : v.ck = 0) (hn : bs.length = v.n - 2) (ha : a + v.n ≤ D.sure.length) (hx2 : x + 2 ≤ D.sure.length) (hd : a + v.n ≤ x ∨ x + 2 ≤ a) (hb : ∀ b ∈ bs, b.length = 64) :
    (wrS D (a : Int) v bs).2.steps = D.steps + bs.length + 6 := by
  have hv := PV.n_bd hck
  unfold wrS
  rw [if_neg (by rw [hck]; decide), if_neg (by unfold fitS; rw [hx]; omega), if_neg (by
    rw [Bool.not_eq_true, List.any_eq_false]
    intro b hbm
    simp [hb b hbm]), Int.toNat_natCast]
  obtain ⟨h1, h2, h3, -⟩ := putS_ok bs D (a + 2) h hq (by omega)
  have s1 := putS_steps bs D (a + 2) h
  rw [andS_ok h1, hx]
  generalize hD1 : (putS D (a + 2) bs).2 = D1 at *
  have l1 : D1.sure.length = D.sure.length := by rw [← hD1, putS_len]
  obtain ⟨c1, c2, c3, -⟩ := clrS_ok h2 h3 (a := x) (by omega)
  have s2 : (clrS D1 (x : Int)).2.steps = D1.steps + 3 := by
    unfold clrS
    rw [if_neg (by omega), Int.toNat_natCast]
    obtain ⟨k1, k2, k3, -⟩ := putS_ok [zero64, zero64] D1 x h2 h3 (by simp only [List.length_cons, List.length_nil]; omega)
    rw [andS_ok k1, barS_steps k2, putS_steps _ _ _ h2]
    rfl
  rw [andS_ok c1]
  generalize hD2 : (clrS D1 (x : Int)).2 = D2 at *
  have l2 : D2.sure.length = D.sure.length := by rw [← hD2, clrS_len, l1]
  obtain ⟨p1, p2, p3, -⟩ := putS_ok [(v.enc (crc bs.flatten)).take 64, (v.enc (crc bs.flatten)).drop 64] D2 a c2 (by rw [c3]; simp) (by simp only [List.length_cons, List.length_nil]; omega)
  rw [andS_ok p1, barS_steps p2, putS_steps _ _ _ c2, s2, s1]
  simp only [List.length_cons, List.length_nil]
theorem andS_len (r : Int × Dsk) (f : Dsk → Int × Dsk) (h : ∀ D, (f D).2.sure.length = D.sure.length) : (andS r f).2.sure.length = r.2.sure.length := by
  unfold andS
  split
  · exact h _
  · rfl
theorem wrS_len (D : Dsk) (a : Int) (v : PV) (bs : List (List UInt8)) : (wrS D a v bs).2.sure.length = D.sure.length := by
  unfold wrS
  split
  · rfl
  · split
    · rfl
    · split
      · rfl
      · rw [andS_len _ _ (fun D => by rw [andS_len _ _ (fun D => by rw [andS_len _ _ barS_len, putS_len]), clrS_len]), putS_len]
theorem rw_blk {w : World} {g lo base n : Nat} {t : TypeId} {l : List Value} (h : Blk w g t l.toArray) (hl : lo ≤ g) (hn : l.length = n) : RwAt lo base t 1 w (some ⟨g, 0, none⟩) n l :=
  ⟨by rw [hn]; omega, fun j u hu => ⟨g, 0, rfl, ⟨hl, h.lt, .inr ⟨_, h⟩⟩, by rw [Nat.zero_add, h.cell]; simpa using hu⟩⟩
theorem RdAns.ok {D : Dsk} {a : Int} {v : PV} {bs : List (List UInt8)} {base : Nat} {r : Ending} {w' : World} (hr : rdS D a = (0, v, bs)) (h : RdAns D a base r w') :
    ∃ B1 d1 B2 d2 A3 c3 gs, r = .returned (.tuple #[.agg (fdC a v B1 d1 B2 d2 A3 bs.length c3), .int .i64 0]) ∧ FdAt base w' v bs B1 B2 A3 c3 gs := by
  unfold RdAns at h
  rw [hr] at h
  dsimp only at h
  rw [if_pos rfl] at h
  exact h
set_option maxHeartbeats 4000000 in
theorem awake15 (w : World) (sp : SpanAt w) : Calls Tryd.prog 9 #[] w fun e w' => e = .returned (.bool true) ∧ Below w.heap.size w w' := by
  have SP := hide sp
  clear sp
  go_enter Tryd.func9, Tryd.ntmps9
  go_wp2_with fail
  refine (ld_new w 10 (by decide) (by decide)).mono ?_
  rintro r w1 ⟨d, rfl, hd⟩
  have L := hide hd
  clear hd
  go_upto_region 5 with fail
  obtain ⟨w2, hw⟩ : ∃ W, W = (w1.alloc (.cells #[.int .i64 2, .int .i64 3] 3)).alloc (.cells #[.int .i64 1, .int .i64 2, .int .i64 0, .int .i64 1, .int .i64 8, .slice none 0 0, .slice (some ⟨w1.heap.size, 0, none⟩) 2 2] 25) := ⟨_, rfl⟩
  have XI : Hid (Blk w2 w1.heap.size 3 (intC [2, 3]).toArray) := hide (by rw [hw]; exact (Blk.new _ _ _).alloc _)
  have X3 : Hid (Blk w2 (w1.heap.size + 1) 25 #[.int .i64 1, .int .i64 2, .int .i64 0, .int .i64 1, .int .i64 8, .slice none 0 0, .slice (some ⟨w1.heap.size, 0, none⟩) 2 2]) := hide (by rw [hw]; have := Blk.new (w1.alloc (.cells #[.int .i64 2, .int .i64 3] 3)) 25 #[.int .i64 1, .int .i64 2, .int .i64 0, .int .i64 1, .int .i64 8, .slice none 0 0, .slice (some ⟨w1.heap.size, 0, none⟩) 2 2]; simpa using this)
  have ba : Below w1.heap.size w1 w2 := by rw [hw]; exact ((Below.refl _ _).alloc (Nat.le_refl _) _).alloc (by simp) _
  rw [← hw]
  obtain ⟨gi, hgi⟩ : ∃ g, g = w1.heap.size := ⟨_, rfl⟩
  have GI := hide (show w.heap.size ≤ gi by rw [hgi]; exact L.out.sz)
  rw [← hgi] at XI X3 ⊢
  obtain ⟨g3, hg3⟩ : ∃ g, g = gi + 1 := ⟨_, rfl⟩
  rw [← hg3] at X3 ⊢
  have G3 := hide (show w.heap.size ≤ g3 by rw [hg3]; exact Nat.le_succ_of_le GI.out)
  replace L := hide (L.out.below ba)
  clear hw hgi hg3 ba
  have hy := op7 X3.out
  refine wp_region_noPanic ?_
  refine wp_region_held_drew (S := (fun w' => w'.cell? ⟨g3, 0, none⟩ = some (.int .i64 1) ∧ w'.cell? ⟨g3, 1, none⟩ = some (.int .i64 2) ∧ w'.cell? ⟨g3, 2, none⟩ = some (.int .i64 0) ∧ w'.cell? ⟨g3, 3, none⟩ = some (.int .i64 1) ∧ w'.cell? ⟨g3, 4, none⟩ = some (.int .i64 8) ∧ w'.cell? ⟨g3, 5, none⟩ = some (.slice none 0 0) ∧ w'.cell? ⟨g3, 6, none⟩ = some (.slice (some ⟨gi, 0, none⟩) 2 2))) (by kernel_rfl) ?_ (fun hHeld => ?_)
  · ((try dsimp only) <;> (first | trivial | assumption | go_keep))
  clear hy
  replace L := hide L.out.drew
  replace XI := hide XI.out.drew
  replace X3 := hide X3.out.drew
  generalize w2.drew = w3 at *
  refine wpAnyH_take (i := 0) (v := ?_) (by simp only [List.getElem?_toArray, List.getElem?_cons_zero]; rfl) (by kernel_rfl) (by kernel_rfl) (by kernel_rfl) (fun _ _ _ h => h) (Or.inl ⟨by rfl, ?_⟩) (by assumption) ?_
  rotate_left 1
  · (intro w hSw; (try dsimp only at hSw); go_simp; try with_reducible rfl)
  try simp only [Act.put, List.setIfInBounds_toArray, List.set_cons_zero, List.set_cons_succ]
  refine wpAnyH_take (i := 1) (v := ?_) (by simp only [List.getElem?_toArray, List.getElem?_cons_succ, List.getElem?_cons_zero]; rfl) (by kernel_rfl) (by kernel_rfl) (by kernel_rfl) (fun _ _ _ h => h) (Or.inl ⟨by rfl, ?_⟩) (by assumption) ?_
  rotate_left 1
  · (intro w hSw; (try dsimp only at hSw); go_simp; try with_reducible rfl)
  try simp only [Act.put, List.setIfInBounds_toArray, List.set_cons_zero, List.set_cons_succ]
  refine wpAnyH_take (i := 2) (v := ?_) (by simp only [List.getElem?_toArray, List.getElem?_cons_succ, List.getElem?_cons_zero]; rfl) (by kernel_rfl) (by kernel_rfl) (by kernel_rfl) (fun _ _ _ h => h) (Or.inl ⟨by rfl, ?_⟩) (by assumption) ?_
  rotate_left 1
  · (intro w hSw; (try dsimp only at hSw); go_simp; try with_reducible rfl)
  try simp only [Act.put, List.setIfInBounds_toArray, List.set_cons_zero, List.set_cons_succ]
  refine wpAnyH_ready (rs := [3]) (by kernel_rfl) (by simp) ?_
  refine AllReadyH.cons (by simp only [List.getElem?_toArray, List.getElem?_cons_succ, List.getElem?_cons_zero]; rfl) (fun K hK => ?_) ?_
  rotate_left 1
  · exact AllReadyH.nil
  go_simp
  refine hK.out _ _ ?_ (fun hHeld2 => ?_)
  · ((try dsimp only) <;> (first | trivial | assumption | go_keep))
  clear hHeld
  have hHeld := hHeld2
  clear hHeld2 hK K
  try simp only [Act.put, List.setIfInBounds_toArray, List.set_cons_zero, List.set_cons_succ]
  have ba := (Below.refl w3.heap.size w3).alloc (Nat.le_refl _) (.cells #[.int .u8 7] 5)
  have HBY : Hid (By (w3.alloc (.cells #[.int .u8 7] 5)) (w3.alloc (.cells #[.int .u8 7] 5)).heap.size (some ⟨w3.heap.size, 0, none⟩) 1 [7]) := hide (by_blk (l := [7]) (Blk.new w3 5 #[.int .u8 7]) rfl)
  replace L := hide (L.out.below ba)
  replace XI := hide (XI.out.below ba)
  replace X3 := hide (X3.out.below ba)
  obtain ⟨g20, hg⟩ : ∃ g, g = w3.heap.size := ⟨_, rfl⟩
  rw [← hg] at HBY ⊢
  clear ba hg
  generalize w3.alloc (.cells #[.int .u8 7] 5) = w4 at *
  clear hHeld
  have hHeld := op7 X3.out
  have BC := hide (blocks_any akV none (some ⟨gi, 0, none⟩) 0 0 2 2 0 0 (some ⟨g20, 0, none⟩) 1 1 _ [7] w4 FisAt.nil rfl (by decide) (by decide) (by decide) HBY.out (Nat.le_refl _) (by decide) (by decide))
  refine wpAnyH_ready (rs := [4]) (by kernel_rfl) (by simp) ?_
  refine AllReadyH.cons (by simp only [List.getElem?_toArray, List.getElem?_cons_succ, List.getElem?_cons_zero]; rfl) (fun K hK => ?_) ?_
  rotate_left 1
  · exact AllReadyH.nil
  go_simp
  refine BC.out.mono ?_; rintro r w5 ⟨A', c', gs, rfl, hR, hb⟩; have RT := hide hR; have S4 := hide L.out.sz; replace L := hide (L.out.below hb); replace XI := hide (XI.out.below hb); replace X3 := hide (X3.out.below hb); clear hR hb; have hy := op7 X3.out
  refine hK.out _ _ ?_ (fun hHeld2 => ?_)
  · ((try dsimp only) <;> (first | trivial | assumption | go_keep))
  clear hHeld
  have hHeld := hHeld2
  clear hHeld2 hK K
  try simp only [Act.put, List.setIfInBounds_toArray, List.set_cons_zero, List.set_cons_succ]
  clear hHeld BC HBY
  have hHeld := hy
  clear hy
  have hmin : min akV.n 200 - 2 = 2 := rfl
  rw [hmin] at RT ⊢
  clear hmin
  have WC := hide (write_any w w5 d (freshD 10) L.out 3 (by unfold I64; omega) akV none (some ⟨gi, 0, none⟩) 0 0 2 2 0 0 SP.out FisAt.nil (rw_blk XI.out (Nat.zero_le _) rfl) (by decide) (by decide) (by decide) (by intro f hf; cases hf) A' 2 c' (blkS 2 [7]) (RT.out.bq S4.out).bs (by decide) (by decide) (by decide))
  have hW := wrS_ok (D := freshD 10) (a := 3) (x := 8) (v := akV) (bs := blkS 2 [7]) (fresh_l _) (fresh_q _) rfl akV_ck (blkS_len _ _) (by rw [fresh_len]; decide) (by rw [fresh_len]; decide) (by decide) (blkS_64 _ _)
  have hS := wrS_steps (D := freshD 10) (a := 3) (x := 8) (v := akV) (bs := blkS 2 [7]) (fresh_l _) (fresh_q _) rfl akV_ck (blkS_len _ _) (by rw [fresh_len]; decide) (by rw [fresh_len]; decide) (by decide) (blkS_64 _ _)
  have hl := wrS_len (freshD 10) 3 akV (blkS 2 [7])
  have e3 : ((3 : Nat) : Int) = 3 := rfl
  rw [e3] at hW hS
  obtain ⟨R, hR⟩ : ∃ R, R = wrS (freshD 10) 3 akV (blkS 2 [7]) := ⟨_, rfl⟩
  rw [← hR] at WC hW hS hl
  clear hR e3
  obtain ⟨q, E⟩ := R
  obtain ⟨rfl, -, -, hrd⟩ := hW
  dsimp only at hrd hS hl WC
  rw [blkS_len] at hS
  replace hS : E.steps = 8 := hS
  have HRD := hide (rdS_wrS (D := E) (E := E) (a := 3) (v := akV) (bs := blkS 2 [7]) akV_ck (blkS_len _ _) (by rw [hl, fresh_len]; decide) (by rw [hrd]; rfl) (by rw [hrd]; rfl) (fun j hj => by
    rw [hrd, if_neg (by omega), if_neg (by omega), if_pos (by rw [akV_n] at *; omega)]
    congr 1
    omega))
  have e3 : ((3 : Nat) : Int) = 3 := rfl
  rw [e3] at HRD
  have HS := hide hS
  clear hrd hS hl e3
  refine wpAnyH_ready (rs := [5]) (by kernel_rfl) (by simp) ?_
  refine AllReadyH.cons (by simp only [List.getElem?_toArray, List.getElem?_cons_succ, List.getElem?_cons_zero]; rfl) (fun K hK => ?_) ?_
  rotate_left 1
  · exact AllReadyH.nil
  go_simp
  refine WC.out.mono ?_; rintro r w6 ⟨rfl, hst⟩; have K6 := hide (stp_kt L.out hst); have L6 := hide hst.ld; replace XI := hide (XI.out.kt K6.out (by decide)); replace X3 := hide (X3.out.kt K6.out (by decide)); clear hst; have hy := op7 X3.out
  refine hK.out _ _ ?_ (fun hHeld2 => ?_)
  · ((try dsimp only) <;> (first | trivial | assumption | go_keep))
  clear hHeld
  have hHeld := hHeld2
  clear hHeld2 hK K
  try simp only [Act.put, List.setIfInBounds_toArray, List.set_cons_zero, List.set_cons_succ]
  clear hHeld WC K6 RT L S4
  have hHeld := hy
  clear hy
  refine wpAnyH_take (i := 6) (v := ?_) (by simp only [List.getElem?_toArray, List.getElem?_cons_succ, List.getElem?_cons_zero]; rfl) (by kernel_rfl) (by kernel_rfl) (by kernel_rfl) (fun _ _ _ h => h) (Or.inl ⟨by rfl, ?_⟩) (by assumption) ?_
  rotate_left 1
  · (intro w hSw; (try dsimp only at hSw); go_simp; try with_reducible rfl)
  try simp only [Act.put, List.setIfInBounds_toArray, List.set_cons_zero, List.set_cons_succ]
  refine wpAnyH_take (i := 7) (v := ?_) (by simp only [List.getElem?_toArray, List.getElem?_cons_succ, List.getElem?_cons_zero]; rfl) (by kernel_rfl) (by kernel_rfl) (by kernel_rfl) (fun _ _ _ h => h) (Or.inl ⟨by rfl, ?_⟩) (by assumption) ?_
  rotate_left 1
  · (intro w hSw; (try dsimp only at hSw); go_simp; try with_reducible rfl)
  try simp only [Act.put, List.setIfInBounds_toArray, List.set_cons_zero, List.set_cons_succ]
  refine wpAnyH_take (i := 8) (v := ?_) (by simp only [List.getElem?_toArray, List.getElem?_cons_succ, List.getElem?_cons_zero]; rfl) (by kernel_rfl) (by kernel_rfl) (by kernel_rfl) (fun _ _ _ h => h) (Or.inl ⟨by rfl, ?_⟩) (by assumption) ?_
  rotate_left 1
  · (intro w hSw; (try dsimp only at hSw); go_simp; try with_reducible rfl)
  try simp only [Act.put, List.setIfInBounds_toArray, List.set_cons_zero, List.set_cons_succ]
  have SC := ld_steps L6.out
  rw [HS.out] at SC
  refine wpAnyH_ready (rs := [9]) (by kernel_rfl) (by simp) ?_
  refine AllReadyH.cons (by simp only [List.getElem?_toArray, List.getElem?_cons_succ, List.getElem?_cons_zero]; rfl) (fun K hK => ?_) ?_
  rotate_left 1
  · exact AllReadyH.nil
  go_simp
  refine SC.mono ?_; rintro r w7 ⟨rfl, rfl⟩
  refine hK.out _ _ ?_ (fun hHeld2 => ?_)
  · ((try dsimp only) <;> (first | trivial | assumption | go_keep))
  clear hHeld
  have hHeld := hHeld2
  clear hHeld2 hK K
  try simp only [Act.put, List.setIfInBounds_toArray, List.set_cons_zero, List.set_cons_succ]
  clear SC
  refine wpAnyH_take (i := 10) (v := ?_) (by simp only [List.getElem?_toArray, List.getElem?_cons_succ, List.getElem?_cons_zero]; rfl) (by kernel_rfl) (by kernel_rfl) (by kernel_rfl) (fun _ _ _ h => h) (Or.inl ⟨by rfl, ?_⟩) (by assumption) ?_
  rotate_left 1
  · (intro w hSw; (try dsimp only at hSw); go_simp; try with_reducible rfl)
  try simp only [Act.put, List.setIfInBounds_toArray, List.set_cons_zero, List.set_cons_succ]
  refine wpAnyH_take (i := 11) (v := ?_) (by simp only [List.getElem?_toArray, List.getElem?_cons_succ, List.getElem?_cons_zero]; rfl) (by kernel_rfl) (by kernel_rfl) (by kernel_rfl) (fun _ _ _ h => h) (Or.inl ⟨by rfl, ?_⟩) (by assumption) ?_
  rotate_left 1
  · (intro w hSw; (try dsimp only at hSw); go_simp; try with_reducible rfl)
  try simp only [Act.put, List.setIfInBounds_toArray, List.set_cons_zero, List.set_cons_succ]
  refine wpAnyH_done (by kernel_rfl) ?_ _
  refine NoPanic.normal ?_
  clear hHeld
  have RC := hide (read_any w w6 d E L6.out 3 (by unfold I64; omega) SP.out)
  go_wp2_with fail
  refine RC.out.mono ?_
  rintro r w7 ⟨hra, hb⟩
  obtain ⟨B1, d1, B2, d2, A3, c3, gs, rfl, hfd⟩ := hra.ok HRD.out
  have FD := hide hfd
  replace X3 := hide (X3.out.below hb)
  replace XI := hide (XI.out.below hb)
  have BW := hide (L6.out.bel.trans (hb.mono L6.out.sz))
  clear hra hfd hb RC
  have hbl : (blkS 2 [7]).length = 2 := blkS_len _ _
  rw [hbl]
  clear hbl
  unfold fdC
  go_upto_region 8 with fail
  obtain ⟨w8, hw⟩ : ∃ W, W = w7.alloc (.cells #[.int .i64 3, .int .i64 akV.e, .int .i64 akV.c, .int .i64 akV.i, .int .i64 akV.p, .int .i64 akV.x, .slice B1 akV.fs.length d1, .slice B2 akV.is.length d2, .slice A3 2 c3] 39) := ⟨_, rfl⟩
  have ba := (show Below w7.heap.size w7 w8 by rw [hw]; exact (Below.refl _ _).alloc (Nat.le_refl _) _)
  have X4 : Hid (Blk w8 w7.heap.size 39 #[.int .i64 3, .int .i64 akV.e, .int .i64 akV.c, .int .i64 akV.i, .int .i64 akV.p, .int .i64 akV.x, .slice B1 akV.fs.length d1, .slice B2 akV.is.length d2, .slice A3 2 c3]) := hide (by rw [hw]; exact Blk.new _ _ _)
  rw [← hw]
  obtain ⟨g4, hg⟩ : ∃ g, g = w7.heap.size := ⟨_, rfl⟩
  rw [← hg] at X4 ⊢
  replace X3 := hide (X3.out.below ba)
  replace XI := hide (XI.out.below ba)
  replace FD := hide (FD.out.below ba)
  replace BW := hide (BW.out.trans (ba.mono BW.out.size))
  clear hw hg ba
  have SM := hide (same_pv akV akV B1 B2 none (some ⟨gi, 0, none⟩) akV.fs.length d1 akV.is.length d2 0 0 2 2 _ _ 0 0 _ _ 0 0 w8 FD.out.f FisAt.nil FD.out.i (rw_blk XI.out (Nat.zero_le _) rfl) (by decide) (by decide) (by decide) (by decide) (by intro f hf; cases hf) (by intro f hf; cases hf))
  rw [decide_eq_true rfl] at SM
  obtain ⟨y0, y1, y2, y3, y4, y5, y6⟩ := op7 X3.out
  obtain ⟨x0, x1, x2, x3, x4, x5, x6, x7, x8⟩ := op9S X4.out
  go_wp2_with fail
  refine SM.out.mono ?_
  rintro r w9 ⟨rfl, hb⟩
  clear y0 y1 y2 y3 y4 y5 y6 x0 x1 x2 x3 x4 x5 x6 x7 x8
  have x8 := (X4.out.below hb).cell 8
  simp only [List.getElem?_toArray, List.getElem?_cons_succ, List.getElem?_cons_zero] at x8
  have B9 := hide (BW.out.trans (hb.mono BW.out.size))
  clear hb
  go_wp2_with fail
  go_ret
  exact ⟨rfl, B9.out⟩
end Go.Proofs.YtlobkefacnedeaaDoor

/- What an argument's reading says of the cells, with the form's own reach: each slice and text takes at most 140737488351232 bytes. -/
namespace Go.Proofs.YtlobkefacnedeaaDoor
open Go.RowKit Go.WideShapes

def Rz (P : Program) (w : World) : Nat → TypeId → List Value → Prop
  | 0, _, _ => True
  | n + 1, t, cs =>
    match P.underlying t with
    | some (.struct fs) => cs.length = P.cellsOf t ∧ ∀ (j : Nat) (f : Field), fs[j]? = some f → Rz P w n f.type ((cs.drop f.offset).take (P.cellsOf f.type))
    | some (.array k e) => cs.length = P.cellsOf t ∧ ∀ i, i < k → Rz P w n e ((cs.drop (i * P.cellsOf e)).take (P.cellsOf e))
    | some (.int k) => ∃ m, cs = [.int k m] ∧ (Lit.int k m).wf = true
    | some .bool => ∃ b, cs = [.bool b]
    | some .string => ∃ s : ByteArray, cs = [.string s] ∧ s.size ≤ 140737488351232
    | some (.slice e) => cs = [.slice none 0 0] ∨ ∃ a len cap, cs = [.slice (some a) len cap] ∧ len ≤ cap ∧ cap ≤ maxLen ∧ cap * P.bytesOf e ≤ 140737488351232 ∧
        ∀ i, i < len → ∃ cs', cs'.length = P.cellsOf e ∧ (∀ j, j < P.cellsOf e → w.cell? (a.add (i * P.cellsOf e + j)) = cs'[j]?) ∧ Rz P w n e cs'
    | _ => True

theorem Rz.rd {P : Program} {w : World} : ∀ {n : Nat} {t : TypeId} {cs : List Value}, Rz P w n t cs → Rd P w n t cs
  | 0, _, _, _ => trivial
  | n + 1, t, cs, h => by
    unfold Rz at h
    unfold Rd
    split at h
    · rename_i fs ht
      simp only [ht]
      exact ⟨h.1, fun j f hj => (h.2 j f hj).rd⟩
    · rename_i k e ht
      simp only [ht]
      exact ⟨h.1, fun i hi => (h.2 i hi).rd⟩
    · rename_i k ht
      simp only [ht]
      exact h
    · rename_i ht
      simp only [ht]
      exact h
    · rename_i ht
      simp only [ht]
      obtain ⟨s, h1, h2⟩ := h
      exact ⟨s, h1, by simp only [maxLen]; omega⟩
    · rename_i e ht
      simp only [ht]
      rcases h with h | ⟨a, len, cap, h1, h2, h3, _, h4⟩
      · exact .inl h
      · refine .inr ⟨a, len, cap, h1, h2, h3, fun i hi => ?_⟩
        obtain ⟨cs', c1, c2, c3⟩ := h4 i hi
        exact ⟨cs', c1, c2, c3.rd⟩
    · split <;> first | trivial | (exfalso; simp_all)

theorem weightsAll_mem {H : Type} {P : Program} {e : TypeId} : ∀ {ds : List (DataW H)} {i : Nat} {d : DataW H}, ds[i]? = some d → ∀ n ∈ d.weights P e, n ∈ DataW.weightsAll P e ds
  | d0 :: ds, 0, d, hd, n, hn => by
    simp only [List.getElem?_cons_zero, Option.some.injEq] at hd
    subst hd
    simp only [DataW.weightsAll, List.mem_append]
    exact Or.inl hn
  | d0 :: ds, j + 1, d, hd, n, hn => by
    simp only [List.getElem?_cons_succ] at hd
    simp only [DataW.weightsAll, List.mem_append]
    exact Or.inr (weightsAll_mem hd n hn)
  | [], _, _, hd, _, _ => by simp at hd

section
variable {H : Type} {enc : TypeId × Value → H} {P : Program} {w : World} {base : Nat} {held : Bool}
theorem rz_of_trod (n : Nat) : ∀ {fuel : Nat} {t : TypeId} {cs : List Value} {x : DataW H × List MemPlace}, DataW.trod enc P w base (fun _ => true) held fuel t cs = some x → (∀ n ∈ x.1.weights P t, n ≤ 140737488351232) → Rz P w n t cs := by
  induction n with
  | zero => intros; trivial
  | succ n ih =>
    intro fuel t cs x h hw
    unfold Rz
    split
    · rename_i fs ht
      obtain ⟨xs, m, _, rfl, hl, hxl, hf⟩ := DataW.trod_struct ht h
      refine ⟨hl, fun j f hj => ?_⟩
      have h1 := hf j f hj
      have hjl : j < xs.length := by rw [hxl]; exact (Array.getElem?_eq_some_iff.1 hj).1
      rw [List.getElem?_eq_getElem hjl] at h1
      refine ih h1 fun k hk => hw k ?_
      simp only [DataW.weights, ht]
      exact DataW.weights_mem_each (j := j) (t := f.type) (d := (xs[j]).1) (by rw [List.getElem?_map, Array.getElem?_toList, hj]; rfl) (by rw [List.getElem?_map, List.getElem?_eq_getElem hjl]; rfl) k hk
    · rename_i k e ht
      obtain ⟨xs, m, _, rfl, hl, hxl, hf⟩ := DataW.trod_array ht h
      refine ⟨hl, fun i hi => ?_⟩
      have h1 := hf i hi
      rw [List.getElem?_eq_getElem (show i < xs.length by omega)] at h1
      refine ih h1 fun k hk => hw k ?_
      simp only [DataW.weights, ht]
      exact weightsAll_mem (i := i) (d := (xs[i]).1) (by rw [List.getElem?_map, List.getElem?_eq_getElem (show i < xs.length by omega)]; rfl) k hk
    · rename_i k ht
      obtain ⟨m, hcs, _, hw⟩ := DataW.trod_int ht h
      exact ⟨m, hcs, hw⟩
    · rename_i ht
      obtain ⟨b, hcs, _⟩ := DataW.trod_bool ht h
      exact ⟨b, hcs⟩
    · rename_i ht
      obtain ⟨s, hcs, rfl, hs⟩ := DataW.trod_string ht h
      exact ⟨s, hcs, by have := hw s.data.toList.length (by simp [DataW.weights]); simpa using this⟩
    · rename_i e ht
      rcases Go.Deep.open_slice ht h with ⟨h0, _⟩ | ⟨a, len, cap, m, n', D, Pl, hcs, _, hl, hm, hmm, rfl, hi⟩
      · exact .inl h0
      · simp only [if_true] at hmm
        subst hmm
        refine .inr ⟨a, len, m, hcs, hl, hm, ?_, fun i hil => ?_⟩
        · have := hw (m * P.bytesOf e) (by simp [DataW.weights, ht, Nat.add_sub_cancel' hl])
          exact this
        · obtain ⟨cs', hc, ht'⟩ := hi i (by omega)
          obtain ⟨_, hcl, hat⟩ := World.cells?_some hc
          refine ⟨cs', hcl, fun j hj => by rw [← hat j hj, addr_add2], ih ht' fun k hk => hw k ?_⟩
          simp only [DataW.weights, ht, List.mem_cons, List.mem_append]
          exact .inr (.inl (weightsAll_mem (i := i) (d := D i) (by simp [hil]) k hk))
    · trivial
end

/-- So an argument reads. -/
def ArgZ (P : Program) (w : World) (t : TypeId) (v : Value) : Prop :=
  match P.underlying t with
  | some (.struct _) | some (.array _ _) => ∃ cs, v = .agg cs ∧ Rz P w 10 t cs.toList
  | _ => Rz P w 10 t [v]
theorem argz_of {H : Type} {enc : TypeId × Value → H} {P : Program} {w : World} {base : Nat} {held : Bool} {r : Reach} {b : Nat} {t : TypeId} {v : Value} {d : DataW H} {p : List MemPlace} (hv : Value.okWide P w r b t v) (h : DataW.Trod enc P w base (fun _ => true) held t v d p)
    (hw : ∀ n ∈ d.weights P t, n ≤ 140737488351232) : ArgZ P w t v := by
  obtain ⟨fuel, hf⟩ := h
  unfold ArgZ
  split
  · rename_i fs ht
    obtain ⟨cs, rfl, _⟩ := okWide_struct ht hv
    exact ⟨cs, rfl, rz_of_trod 10 hf hw⟩
  · rename_i k e ht
    simp only [Value.okWide, ht] at hv
    obtain ⟨cs, rfl, _⟩ := hv
    exact ⟨cs, rfl, rz_of_trod 10 hf hw⟩
  · rename_i h1 h2
    have hc : v.cells.toList = [v] := by
      cases v with
      | agg cs =>
        exfalso
        unfold Value.okWide at hv
        split at hv
        · rename_i fs hs; exact h1 _ hs
        · rename_i k e hs; exact h2 _ _ hs
        · unfold Cell.okWide at hv
          split at hv <;> first | (simp_all; done) | skip
          unfold Cell.ok at hv
          split at hv <;> simp_all
      | _ => rfl
    rw [hc] at hf
    exact rz_of_trod 10 hf hw
theorem sized_arg {H : Type} {P : Program} {ts : List TypeId} {ds : List (DataW H)} (h : (DataW.weightsEach P ts ds).all (· ≤ reachBytes) = true) (j : Nat) {t : TypeId} {d : DataW H} (ht : ts[j]? = some t) (hd : ds[j]? = some d) : ∀ n ∈ d.weights P t, n ≤ 140737488351232 := fun n hn => by
  have := List.all_eq_true.1 h n (DataW.weights_mem_each ht hd n hn)
  have := of_decide_eq_true this
  simp only [reachBytes] at this
  exact this

section
variable {P : Program} {w : World} {n : Nat} {t : TypeId} {cs : List Value}
theorem argz_one {v : Value} (h : ArgZ P w t v) {d : TypeDesc} (ht : P.underlying t = some d) (hs : ∀ fs, d ≠ .struct fs) (ha : ∀ k e, d ≠ .array k e) : Rz P w 10 t [v] := by
  unfold ArgZ at h
  split at h
  · rename_i fs hf; rw [ht] at hf; exact absurd (Option.some.inj hf) (hs _)
  · rename_i k e hf; rw [ht] at hf; exact absurd (Option.some.inj hf) (ha _ _)
  · exact h
theorem argz_agg {v : Value} (h : ArgZ P w t v) (ht : (∃ fs, P.underlying t = some (.struct fs)) ∨ ∃ k e, P.underlying t = some (.array k e)) : ∃ cs : Array Value, v = .agg cs ∧ Rz P w 10 t cs.toList := by
  unfold ArgZ at h
  rcases ht with ⟨fs, ht⟩ | ⟨k, e, ht⟩ <;> rw [ht] at h <;> exact h
theorem ArgZ.arg {v : Value} (h : ArgZ P w t v) : Arg P w t v := by
  unfold ArgZ at h
  unfold Arg
  split at h
  · rename_i ht; simp only [ht]; obtain ⟨cs, h1, h2⟩ := h; exact ⟨cs, h1, h2.rd⟩
  · rename_i ht; simp only [ht]; obtain ⟨cs, h1, h2⟩ := h; exact ⟨cs, h1, h2.rd⟩
  · split
    · exfalso; simp_all
    · exfalso; simp_all
    · exact h.rd
theorem rz_slice {e : TypeId} (ht : P.underlying t = some (.slice e)) (h : Rz P w (n + 1) t cs) :
    cs = [.slice none 0 0] ∨ ∃ a len cap, cs = [.slice (some a) len cap] ∧ len ≤ cap ∧ cap ≤ maxLen ∧ cap * P.bytesOf e ≤ 140737488351232 ∧
        ∀ i, i < len → ∃ cs', cs'.length = P.cellsOf e ∧ (∀ j, j < P.cellsOf e → w.cell? (a.add (i * P.cellsOf e + j)) = cs'[j]?) ∧ Rz P w n e cs' := by
  unfold Rz at h; rw [ht] at h; exact h
theorem rz_cap {e : TypeId} {A : Option Addr} {len cap : Nat} (ht : P.underlying t = some (.slice e)) (h : Rz P w (n + 1) t [.slice A len cap]) : cap * P.bytesOf e ≤ 140737488351232 := by
  rcases rz_slice ht h with h | ⟨a, l, c, h, _, _, hb, _⟩
  · simp at h; obtain ⟨_, _, rfl⟩ := h; omega
  · simp at h; obtain ⟨_, _, rfl⟩ := h; exact hb
theorem rz_len {fs : Array Field} (ht : P.underlying t = some (.struct fs)) (h : Rz P w (n + 1) t cs) : cs.length = P.cellsOf t := by
  unfold Rz at h; rw [ht] at h; exact h.1
theorem rz_field {fs : Array Field} (ht : P.underlying t = some (.struct fs)) (h : Rz P w (n + 1) t cs) (j : Nat) {u o : Nat} (hj : (fs[j]?).map (fun f => (f.type, f.offset)) = some (u, o)) {c : Nat} (hc : P.cellsOf u = c) :
    Rz P w n u ((cs.drop o).take c) := by
  unfold Rz at h; rw [ht] at h
  cases hf : fs[j]? with
  | none => rw [hf] at hj; cases hj
  | some f =>
    rw [hf] at hj
    simp only [Option.map_some, Option.some.injEq, Prod.mk.injEq] at hj
    have := h.2 j f hf
    rw [hj.1, hj.2, hc] at this
    exact this
/-- A field of one cell. -/
theorem rz_fld {fs : Array Field} (ht : P.underlying t = some (.struct fs)) (h : Rz P w (n + 1) t cs) (j : Nat) {u o : Nat} (hj : (fs[j]?).map (fun f => (f.type, f.offset)) = some (u, o)) (hc : P.cellsOf u = 1) {c : Value} (hcs : cs[o]? = some c) : Rz P w n u [c] := by
  have h1 := rz_field ht h j hj hc
  rwa [take_one hcs] at h1
theorem rz_array {k : Nat} {e : TypeId} (ht : P.underlying t = some (.array k e)) (h : Rz P w (n + 1) t cs) :
    cs.length = P.cellsOf t ∧ ∀ i, i < k → Rz P w n e ((cs.drop (i * P.cellsOf e)).take (P.cellsOf e)) := by
  unfold Rz at h; rw [ht] at h; exact h
/-- A slice of bytes that came in, with its reach. -/
theorem by_of_rz {e : TypeId} {v : Value} (ht : P.underlying t = some (.slice e)) (he : P.underlying e = some (.int .u8)) (hc : P.cellsOf e = 1) (hb : P.bytesOf e = 1) (h : Rz P w (n + 2) t [v]) :
    ∃ A len cap l, v = .slice A len cap ∧ len ≤ cap ∧ cap ≤ 140737488351232 ∧ By w w.heap.size A len l := by
  obtain ⟨A, len, cap, l, rfl, h1, -, h3⟩ := by_of_rd ht he hc h.rd
  have := rz_cap ht h
  exact ⟨A, len, cap, l, rfl, h1, by rw [hb] at this; omega, h3⟩
theorem bools_of_rz {e : TypeId} {v : Value} (ht : P.underlying t = some (.slice e)) (he : P.underlying e = some .bool) (hc : P.cellsOf e = 1) (hb : P.bytesOf e = 1) (h : Rz P w (n + 2) t [v]) :
    ∃ (A : Option Addr) (len cap : Nat) (l : List Bool), v = .slice A len cap ∧ len ≤ cap ∧ cap ≤ 140737488351232 ∧ Sl w w.heap.size A len (l.map Value.bool) := by
  obtain ⟨A, len, cap, l, rfl, h1, -, h3⟩ := bools_of_rd ht he hc h.rd
  have := rz_cap ht h
  exact ⟨A, len, cap, l, rfl, h1, by rw [hb] at this; omega, h3⟩
theorem ints_of_rz {e : TypeId} {k : IntKind} {v : Value} (ht : P.underlying t = some (.slice e)) (he : P.underlying e = some (.int k)) (hc : P.cellsOf e = 1) {b : Nat} (hb : P.bytesOf e = b) (h : Rz P w (n + 2) t [v]) :
    ∃ (A : Option Addr) (len cap : Nat) (l : List Int), v = .slice A len cap ∧ len ≤ cap ∧ cap * b ≤ 140737488351232 ∧ Sl w w.heap.size A len (l.map (Value.int k)) ∧ ∀ x ∈ l, (Lit.int k x).wf = true := by
  obtain ⟨A, len, cap, l, rfl, h1, -, h3, h4⟩ := ints_of_rd ht he hc h.rd
  have := rz_cap ht h
  exact ⟨A, len, cap, l, rfl, h1, by rw [hb] at this; omega, h3, h4⟩
theorem slk_of_rz {k : Nat} {e : TypeId} {v : Value} (ht : P.underlying t = some (.slice e)) (hc : P.cellsOf e = k) (h : Rz P w (n + 1) t [v]) :
    ∃ A len cap rows, v = .slice A len cap ∧ len ≤ cap ∧ cap ≤ 9223372036854775807 ∧ cap * P.bytesOf e ≤ 140737488351232 ∧ SlK w A k len rows ∧ ∀ r ∈ rows, Rz P w n e r := by
  rcases rz_slice ht h with h | ⟨a, len, cap, h, hl, hm, hb, hi⟩
  · simp only [List.cons.injEq, and_true] at h
    exact ⟨none, 0, 0, [], h, Nat.le_refl _, by omega, by omega, ⟨rfl, by simp, by simp⟩, by simp⟩
  · simp only [List.cons.injEq, and_true] at h
    rw [hc] at hi
    obtain ⟨rs, hrl, hr⟩ := list_of (Q := fun i (cs' : List Value) => cs'.length = k ∧ (∀ j, j < k → w.cell? (a.add (i * k + j)) = cs'[j]?) ∧ Rz P w n e cs') len hi
    refine ⟨some a, len, cap, rs, h, hl, by simpa [maxLen] using hm, hb, ⟨hrl, fun i hi => (hr i hi).1, fun i j u hi hu => ?_⟩, fun x hx => ?_⟩
    · rw [List.getElem?_eq_getElem hi, Option.bind_some] at hu
      have hj : j < k := by have := (List.getElem?_eq_some_iff.1 hu).1; rwa [(hr i hi).1] at this
      exact ⟨a, rfl, by rw [(hr i hi).2.1 j hj, hu]⟩
    · obtain ⟨j, hj, rfl⟩ := List.getElem_of_mem hx
      exact (hr j hj).2.2
theorem rz_int {k : IntKind} (ht : P.underlying t = some (.int k)) (h : Rz P w (n + 1) t cs) : ∃ m, cs = [.int k m] ∧ (Lit.int k m).wf = true := by
  unfold Rz at h; rw [ht] at h; exact h
theorem rz_bool (ht : P.underlying t = some .bool) (h : Rz P w (n + 1) t cs) : ∃ b, cs = [.bool b] := by
  unfold Rz at h; rw [ht] at h; exact h
theorem rz_i64 {v : Value} (ht : P.underlying t = some (.int .i64)) (h : Rz P w (n + 1) t [v]) : ∃ m, v = .int .i64 m ∧ -9223372036854775808 ≤ m ∧ m ≤ 9223372036854775807 := by
  obtain ⟨m, hm, hw⟩ := rz_int ht h
  simp only [List.cons.injEq, and_true] at hm
  have := wf_bd_i64 hw
  exact ⟨m, hm, this.1, this.2⟩
end
theorem int_argz {P : Program} {w : World} {t : TypeId} {v : Value} (ht : P.underlying t = some (.int .i64)) (h : ArgZ P w t v) : ∃ n, v = .int .i64 n ∧ -9223372036854775808 ≤ n ∧ n ≤ 9223372036854775807 :=
  int_arg ht h.arg
end Go.Proofs.YtlobkefacnedeaaDoor
