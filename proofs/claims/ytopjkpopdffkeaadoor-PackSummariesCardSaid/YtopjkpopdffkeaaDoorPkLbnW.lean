/- The walk over what lbn gives: a piece with a block more. -/
import Derived.Test.YtopjkpopdffkeaaDoorPkF
set_option linter.unusedVariables false
set_option linter.unusedSimpArgs false
namespace Go.Proofs.YtopjkpopdffkeaaDoor
open Go.RowKit
attribute [local go_sem ↓] Go.wp_at_zero Go.wp_at_succ

/-- The files at hand: with one of its own for the i-th, if it is another one. -/
def filesL (file i : Int) (f : FI) (p : PcP) : List FI := if file = i then p.fs else p.fs ++ [⟨f.ino, f.ver, []⟩]
def lastL (l : List FI) : FI := l.getLastD ⟨0, 0, []⟩
def addL (file i : Int) (f : FI) (n : Int) (p : PcP) : PcP × Bool :=
  if (lastL (filesL file i f p)).ls.length = 30 then (p, false)
  else ({ p with fs := (filesL file i f p).set ((filesL file i f p).length - 1) { lastL (filesL file i f p) with ls := (lastL (filesL file i f p)).ls ++ [n] } }, true)
theorem lastL_at {l : List FI} {q : Nat} (h : l.length = q + 1) : l[q]? = some (lastL l) := by
  unfold lastL
  rw [List.getLastD_eq_getLast?, List.getLast?_eq_getElem?, h, Nat.add_sub_cancel, List.getElem?_eq_getElem (by omega)]
  rfl
set_option maxRecDepth 100000 in
set_option maxHeartbeats 2000000 in
theorem lbn1_any (base k b1 b2 b3 b4 : Nat) (file i n : Int) (f : FI) (p : PcP) (A1 A2 : Option Addr) (c1 c2 : Nat) (w : World)
    (q0 : w.cell? ⟨k, 3, none⟩ = some (.int .i64 file)) (q1 : w.cell? ⟨b1, 0, none⟩ = some (.pointer (some ⟨k, 0, none⟩))) (q2 : w.cell? ⟨b2, 0, none⟩ = some (.int .i64 i)) (q3 : w.cell? ⟨b3, 0, none⟩ = some (.int .i64 f.ino))
    (q4 : w.cell? ⟨b3, 1, none⟩ = some (.int .i64 f.ver)) (q5 : w.cell? ⟨b4, 0, none⟩ = some (.int .i64 n))
    (hf : FisAt base base w A1 p.fs.length p.fs) (hn1 : p.fs.length ≤ 100000) (hl : lsN p.fs ≤ 100000) (hne : file = i → p.fs ≠ []) (hB : base ≤ w.heap.size) :
    Calls Tryd.prog 22 #[.agg (pcC p.nw A1 p.fs.length c1 A2 p.is.length c2), .pointer (some ⟨b1, 0, none⟩), .pointer (some ⟨b2, 0, none⟩), .pointer (some ⟨b3, 0, none⟩), .pointer (some ⟨b4, 0, none⟩)] w fun e w' =>
      ∃ A c, e = .returned (.tuple #[.agg (pcC p.nw A (addL file i f n p).1.fs.length c A2 p.is.length c2), .bool (addL file i f n p).2]) ∧
      FisAt base base w' A (addL file i f n p).1.fs.length (addL file i f n p).1.fs ∧ Below w.heap.size w w' := by
  obtain ⟨m1, hm1⟩ : ∃ x, x = p.fs.length := ⟨_, rfl⟩
  obtain ⟨m2, hm2⟩ : ∃ x, x = p.is.length := ⟨_, rfl⟩
  rw [← hm1] at hf hn1
  have HF := hide hf
  have HB := hide hB
  have HM1 := hide hm1
  have HM2 := hide hm2
  have HL := hide hl
  have HNE := hide hne
  have QQ := hide (show ∀ w', Below w.heap.size w w' → w'.cell? ⟨k, 3, none⟩ = some (.int .i64 file) ∧ w'.cell? ⟨b1, 0, none⟩ = some (.pointer (some ⟨k, 0, none⟩)) ∧ w'.cell? ⟨b2, 0, none⟩ = some (.int .i64 i) ∧ w'.cell? ⟨b3, 0, none⟩ = some (.int .i64 f.ino) ∧ w'.cell? ⟨b3, 1, none⟩ = some (.int .i64 f.ver) ∧ w'.cell? ⟨b4, 0, none⟩ = some (.int .i64 n) from
    fun w' hb => ⟨(hb.cell (cell_lt q0)).trans q0, (hb.cell (cell_lt q1)).trans q1, (hb.cell (cell_lt q2)).trans q2, (hb.cell (cell_lt q3)).trans q3, (hb.cell (cell_lt q4)).trans q4, (hb.cell (cell_lt q5)).trans q5⟩)
  rw [← hm2]
  clear hf hB hm2 hl hne q0 q1 q2 q3 q4 q5
  rw [← hm1]
  clear hm1
  have SLI := hide (fun w0 : World => no_slice etyF w0)
  have SL := SLI.out
  unfold pcC
  go_enter Tryd.func22, Tryd.ntmps22
  go_upto_region 1 with fail
  have HBW : Below w.heap.size w ((w.alloc (.cells #[.bool p.nw, .slice A1 m1 c1, .slice A2 m2 c2] 37)).alloc (.cells #[.bool false, .slice none 0 0, .slice none 0 0] 37)) := ((Below.refl _ _).alloc (Nat.le_refl _) _).alloc (by simp) _
  have KP : Blk ((w.alloc (.cells #[.bool p.nw, .slice A1 m1 c1, .slice A2 m2 c2] 37)).alloc (.cells #[.bool false, .slice none 0 0, .slice none 0 0] 37)) w.heap.size 37 #[.bool p.nw, .slice A1 m1 c1, .slice A2 m2 c2] := (Blk.new _ _ _).alloc _
  have KR : Blk ((w.alloc (.cells #[.bool p.nw, .slice A1 m1 c1, .slice A2 m2 c2] 37)).alloc (.cells #[.bool false, .slice none 0 0, .slice none 0 0] 37)) (w.heap.size + 1) 37 #[.bool false, .slice none 0 0, .slice none 0 0] := by
    have := Blk.new (w.alloc (.cells #[.bool p.nw, .slice A1 m1 c1, .slice A2 m2 c2] 37)) 37 #[.bool false, .slice none 0 0, .slice none 0 0]
    rwa [World.size_alloc] at this
  have SZ : ((w.alloc (.cells #[.bool p.nw, .slice A1 m1 c1, .slice A2 m2 c2] 37)).alloc (.cells #[.bool false, .slice none 0 0, .slice none 0 0] 37)).heap.size = w.heap.size + 2 := by simp
  generalize (w.alloc (.cells #[.bool p.nw, .slice A1 m1 c1, .slice A2 m2 c2] 37)).alloc (.cells #[.bool false, .slice none 0 0, .slice none 0 0] 37) = w1 at *
  obtain ⟨cs, e1, e2, e3, e4⟩ := HF.out.below HBW
  have x1 := KP.cell 1
  simp only [List.getElem?_toArray, List.getElem?_cons_succ, List.getElem?_cons_zero] at x1
  have hwl : w.heap.size < w1.heap.size := by rw [SZ]; omega
  replace KP := hide KP
  replace KR := hide KR
  replace SZ := hide SZ
  replace HBW := hide HBW
  have b3 := (Below.refl w1.heap.size w1).alloc (Nat.le_refl _) (.cells #[] 28)
  have B3 := hide b3
  have SC := hide (RwAt.below e3 b3).slc
  have E4 := hide (fun (j : Nat) (x : List Value) (f : FI) (hx : cs[j]? = some x) (hf : p.fs[j]? = some f) => (e4 j x f hx hf).kt (T := []) (Kt.of_below b3) (by simp))
  have hone := hide (fis_cells (by omega) e4).2
  have HE := hide (And.intro e1 e2)
  have hb1 : base ≤ (w1.alloc (.cells #[] 28)).heap.size := Nat.le_trans HB.out (Nat.le_trans HBW.out.size b3.size)
  have HOWN := hide (own_nw (w := w1) (base := base) (k := 3) (e := 28) (Nat.le_trans HB.out HBW.out.size))
  clear e1 e2 e3 e4 b3
  go_upto_region 2 with (
    at_builtin
    refine wpList_appK rfl (.tmp 10) (.tmp 12) _ rfl etyF base (.slice (some ⟨w1.heap.size, 0, none⟩) 0 0) 0 [] rfl HOWN.out _ A1 m1 c1 cs.flatten rfl SC.out hone.out (by omega) hb1 ?_
    intro A3 c3 w3 hown hg hnew
    have R3 : Hid (FRow base w3 A3 m1 c3 p.fs) := hide (by have := FRow.app (base := base) (gs := p.fs) (cs := []) (ds := cs) (fs := []) rfl rfl HOWN.out (by simp) HE.out.1 HE.out.2 E4.out rfl hown hg; simpa using this)
    have BB3 := hide (bel_gr B3.out hg (fun g hg => by simp [Value.ownBlock] at hg; omega) B3.out.size)
    have GG : Hid (∀ g, (Value.slice A3 m1 c3).ownBlock = some g → w1.heap.size ≤ g) := hide (fun g hgg => by rcases hnew with h | h <;> simp only [Nat.zero_add] at h <;> rw [h] at hgg <;> simp [Value.ownBlock] at hgg <;> omega)
    clear hown hg hnew)
  replace BB3 : Hid (Below w1.heap.size w1 w3) := hide BB3.out
  clear x1 SL hb1
  have CC := hide (fun (w' : World) (hb : Below w1.heap.size w1 w') => QQ.out w' (HBW.out.trans (hb.mono HBW.out.size)))
  obtain ⟨s0, s1, s2, s3, s4, s5⟩ := CC.out _ BB3.out.drew
  have WB3 := hide BB3.out.size
  have BB4 := hide BB3.out.drew
  have R4 := hide (show FRow base w3.drew A3 m1 c3 p.fs from R3.out.below (Below.refl _ _).drew)
  by_cases hfi : file = i
  · subst hfi
    focus
      obtain ⟨l, hl⟩ : ∃ l, l = filesL file file f p := ⟨_, rfl⟩
      have hlp : l = p.fs := by rw [hl]; unfold filesL; rw [if_pos rfl]
      have LL : Hid (l = filesL file file f p) := hide hl
      have LE : Hid (l.length ≤ 100001) := hide (by rw [hlp, ← HM1.out]; omega)
      have LB : Hid (lsN l ≤ 100000) := hide (by rw [hlp]; exact HL.out)
      have LN : Hid (l ≠ []) := hide (by rw [hlp]; exact HNE.out rfl)
      have R5 : Hid (FRow base w3.drew A3 m1 c3 l) := hide (by rw [hlp]; exact R4.out)
      clear hl hlp R4 R3
      refine wp_region_noPanic ?_
      refine wp_region_held_drew (S := (fun w' => w'.cell? ⟨k, 3, none⟩ = some (.int .i64 file) ∧ w'.cell? ⟨b1, 0, none⟩ = some (.pointer (some ⟨k, 0, none⟩)) ∧ w'.cell? ⟨b2, 0, none⟩ = some (.int .i64 file))) (by kernel_rfl) ?_ (fun hHeld => ?_)
      · ((try dsimp only) <;> (first | trivial | assumption | go_keep))
      refine wpAnyH_take (i := 0) (v := ?_) (by simp only [List.getElem?_toArray, List.getElem?_cons_succ, List.getElem?_cons_zero]; rfl) (by kernel_rfl) (by kernel_rfl) (by kernel_rfl) (fun _ _ _ h => h) (Or.inl ⟨by rfl, ?_⟩) (by assumption) ?_
      rotate_left 1
      · (intro w hSw; (try dsimp only at hSw); go_simp; try with_reducible rfl)
      try simp only [Act.put, List.setIfInBounds_toArray, List.set_cons_zero, List.set_cons_succ]
      refine wpAnyH_take (i := 1) (v := ?_) (by simp only [List.getElem?_toArray, List.getElem?_cons_succ, List.getElem?_cons_zero]; rfl) (by kernel_rfl) (by kernel_rfl) (by kernel_rfl) (fun _ _ _ h => h) (Or.inl ⟨by rfl, ?_⟩) (by assumption) ?_
      rotate_left 1
      · (intro w hSw; (try dsimp only at hSw); go_simp; try with_reducible rfl)
      try simp only [Act.put, List.setIfInBounds_toArray, List.set_cons_zero, List.set_cons_succ]
      refine wpAnyH_take (i := 2) (v := ?_) (by simp only [List.getElem?_toArray, List.getElem?_cons_succ, List.getElem?_cons_zero]; rfl) (by kernel_rfl) (by kernel_rfl) (by kernel_rfl) (fun _ _ _ h => h) (Or.inl ⟨by rfl, ?_⟩) (by assumption) ?_
      rotate_left 1
      · (intro w hSw; (try dsimp only at hSw); go_simp; try with_reducible rfl)
      try simp only [Act.put, List.setIfInBounds_toArray, List.set_cons_zero, List.set_cons_succ]
      refine wpAnyH_take (i := 3) (v := ?_) (by simp only [List.getElem?_toArray, List.getElem?_cons_succ, List.getElem?_cons_zero]; rfl) (by kernel_rfl) (by kernel_rfl) (by kernel_rfl) (fun _ _ _ h => h) (Or.inl ⟨by rfl, ?_⟩) (by assumption) ?_
      rotate_left 1
      · (intro w hSw; (try dsimp only at hSw); go_simp; try with_reducible rfl)
      try simp only [Act.put, List.setIfInBounds_toArray, List.set_cons_zero, List.set_cons_succ]
      refine wpAnyH_take (i := 4) (v := ?_) (by simp only [List.getElem?_toArray, List.getElem?_cons_succ, List.getElem?_cons_zero]; rfl) (by kernel_rfl) (by kernel_rfl) (by kernel_rfl) (fun _ _ _ h => h) (Or.inl ⟨by rfl, ?_⟩) (by assumption) ?_
      rotate_left 1
      · (intro w hSw; (try dsimp only at hSw); go_simp; try with_reducible rfl)
      try simp only [Act.put, List.setIfInBounds_toArray, List.set_cons_zero, List.set_cons_succ]
      refine wpAnyH_take (i := 5) (v := ?_) (by simp only [List.getElem?_toArray, List.getElem?_cons_succ, List.getElem?_cons_zero]; rfl) (by kernel_rfl) (by kernel_rfl) (by kernel_rfl) (fun _ _ _ h => h) (Or.inl ⟨by rfl, ?_⟩) (by assumption) ?_
      rotate_left 1
      · (intro w hSw; (try dsimp only at hSw); go_simp; try with_reducible rfl)
      try simp only [Act.put, List.setIfInBounds_toArray, List.set_cons_zero, List.set_cons_succ]
      refine wpAnyH_done (by kernel_rfl) ?_ _
      refine NoPanic.normal ?_
      clear s0 s1 s2 s3 s4 s5 hHeld
      go_upto_region 4 with fail
      have BB5 := BB4
      generalize w3.drew = w5 at *
      clear BB4
      obtain ⟨q, hq⟩ : ∃ q, m1 = q + 1 := ⟨m1 - 1, by have := R5.out.len; have := List.length_pos_iff.2 LN.out; omega⟩
      have hqb : q ≤ 100000 := by have := R5.out.len; have := LE.out; omega
      have hw64 : IntKind.i64.wrap (q : Int) = (q : Int) := by rw [IntKind.wrap_i64]; omega
      have hqs : (q : Int) < (q : Int) + 1 := by omega
      rw [hq] at R5 ⊢
      have HQ := hide hq
      clear hq
      obtain ⟨g, fl, A6, c6, hA, hbg, hgb, hfl, hi6, hc6, hset⟩ := R5.out.at (j := q) (Nat.lt_succ_self q)
      subst hA
      have hll := hide (Option.some.inj ((hfl.symm).trans (lastL_at R5.out.len)))
      have h6b : Hid (fl.ls.length ≤ 100000) := hide (Nat.le_trans (lsN_mem hfl) LB.out)
      obtain ⟨m6, hm6⟩ : ∃ m, m = fl.ls.length := ⟨_, rfl⟩
      rw [← hm6] at hc6 h6b hi6
      have HM6 := hide hm6
      have H6 := hide hi6
      have HS := hide hset
      have HGB := hide hgb
      have GW : Hid (w1.heap.size ≤ g) := hide (GG.out g rfl)
      have HFL := hide hfl
      have h6b := h6b.out
      have BF5 := hide (HBW.out.trans (BB5.out.mono HBW.out.size))
      have KP5 := hide (KP.out.below BB5.out)
      have KR5 := hide (KR.out.below BB5.out)
      clear hm6 hi6 hset hgb hfl
      by_cases h30 : m6 = 30
      · subst h30
        have AD : Hid (addL file file f n p = (p, false)) := hide (by unfold addL; rw [← LL.out, if_pos (by rw [← hll.out, ← HM6.out])])
        have x0 := KP5.out.cell 0
        have x1 := KP5.out.cell 1
        have x2 := KP5.out.cell 2
        have y0 := KR5.out.cell 0
        have y1 := KR5.out.cell 1
        have y2 := KR5.out.cell 2
        have yf0 := KR5.out.frozen 0
        have yf1 := KR5.out.frozen 1
        have yf2 := KR5.out.frozen 2
        simp only [List.getElem?_toArray, List.getElem?_cons_succ, List.getElem?_cons_zero] at x0 x1 x2 y0 y1 y2
        go_wp2_with fail
        have KF := ((KR5.out.set 0 (.bool p.nw)).set 1 (.slice A1 m1 c1)).set 2 (.slice A2 m2 c2)
        simp only [List.setIfInBounds_toArray, List.set_cons_zero, List.set_cons_succ] at KF
        refine bodyPost_ret (results_cell_slot (g := w.heap.size + 1) (cs := #[.bool p.nw, .slice A1 m1 c1, .slice A2 m2 c2]) (t := 37) (fr := (0, 0)) rfl _ _ (v := .bool false) (hp := rfl) (hq := rfl) (hg := KF) (hu := Tryd.underlying37) (hd := rfl) (hi := by kernel_rfl)) rfl ?_
        have hsp : ∀ i, w.heap.size ≤ (Addr.mk (w.heap.size + 1) i none).block := fun i => Nat.le_succ _
        have BFF := ((BF5.out.setCell (hsp 0) (.bool p.nw)).setCell (hsp 1) (.slice A1 m1 c1)).setCell (hsp 2) (.slice A2 m2 c2)
        rw [AD.out]
        exact ⟨A1, ⟨c1, by rw [HM1.out]⟩, fis_len (HF.out.below BFF) HM1.out, BFF⟩
      · have h30b : ((m6 : Int) == 30) = false := by rw [beq_eq_false_iff_ne]; omega
        go_upto_region 7 with fail
        have AD : Hid (addL file file f n p = ({ p with fs := l.set q { fl with ls := fl.ls ++ [n] } }, true)) := hide (by unfold addL; rw [← LL.out, ← hll.out, if_neg (by rw [← HM6.out]; exact h30), R5.out.len, Nat.add_sub_cancel])
        have CC7 := hide (fun (w' : World) (hb : Below w5.heap.size w5 w') => show w'.cell? ⟨g, q * 3 + 2, none⟩ = some (.slice A6 m6 c6) ∧ w'.cell? ⟨b4, 0, none⟩ = some (.int .i64 n) from ⟨(hb.cell (p := ⟨g, q * 3 + 2, none⟩) (by obtain ⟨_, h⟩ := HGB.out; exact h.lt)).trans hc6, (CC.out w' (BB5.out.trans (hb.mono BB5.out.size))).2.2.2.2.2⟩)
        have s0 := CC7.out _ (Below.refl _ _).drew
        clear hc6
        refine wp_region_noPanic ?_
        refine wp_region_last (n := 14) (S := (fun w' => w'.cell? ⟨g, q * 3 + 2, none⟩ = some (.slice A6 m6 c6) ∧ w'.cell? ⟨b4, 0, none⟩ = some (.int .i64 n))) (by kernel_rfl) (by rfl) (by kernel_rfl) ?_ (fun hHeld => ?_)
        · ((try dsimp only) <;> (first | trivial | assumption | go_keep))
        clear s0
        have BD := hide ((Below.refl w5.heap.size w5).drew)
        have SI2 := hide ((RwAt.below H6.out BD.out).sl)
        have ws : Hid (w5.heap.size ≤ w5.drew.heap.size) := hide (Nat.le_refl _)
        generalize w5.drew = w6 at *
        refine wpAnyH_take (i := 0) (v := ?_) (by simp only [List.getElem?_toArray, List.getElem?_cons_succ, List.getElem?_cons_zero]; rfl) (by kernel_rfl) (by kernel_rfl) (by kernel_rfl) (fun _ _ _ h => h) (Or.inl ⟨by rfl, ?_⟩) (by assumption) ?_
        rotate_left 1
        · (intro w hSw; (try dsimp only at hSw); go_simp; try with_reducible rfl)
        try simp only [Act.put, List.setIfInBounds_toArray, List.set_cons_zero, List.set_cons_succ]
        refine wpAnyH_take (i := 1) (v := ?_) (by simp only [List.getElem?_toArray, List.getElem?_cons_succ, List.getElem?_cons_zero]; rfl) (by kernel_rfl) (by kernel_rfl) (by kernel_rfl) (fun _ _ _ h => h) (Or.inl ⟨by rfl, ?_⟩) (by assumption) ?_
        rotate_left 1
        · (intro w hSw; (try dsimp only at hSw); go_simp; try with_reducible rfl)
        try simp only [Act.put, List.setIfInBounds_toArray, List.set_cons_zero, List.set_cons_succ]
        refine wpAnyH_take (i := 3) (v := ?_) (by simp only [List.getElem?_toArray, List.getElem?_cons_succ, List.getElem?_cons_zero]; rfl) (by kernel_rfl) (by kernel_rfl) (by kernel_rfl) (fun _ _ _ h => h) (Or.inl ⟨by rfl, ?_⟩) (by assumption) ?_
        rotate_left 1
        · (intro w hSw; (try dsimp only at hSw); go_simp; try with_reducible rfl)
        try simp only [Act.put, List.setIfInBounds_toArray, List.set_cons_zero, List.set_cons_succ]
        refine wpAnyH_take (i := 4) (v := ?_) (by simp only [List.getElem?_toArray, List.getElem?_cons_succ, List.getElem?_cons_zero]; rfl) (by kernel_rfl) (by kernel_rfl) (by kernel_rfl) (fun _ _ _ h => h) (Or.inl ⟨by rfl, ?_⟩) (by assumption) ?_
        rotate_left 1
        · (intro w hSw; (try dsimp only at hSw); go_simp; try with_reducible rfl)
        try simp only [Act.put, List.setIfInBounds_toArray, List.set_cons_zero, List.set_cons_succ]
        refine wpAnyH_take (i := 5) (v := ?_) (by simp only [List.getElem?_toArray, List.getElem?_cons_succ, List.getElem?_cons_zero]; rfl) (by kernel_rfl) (by kernel_rfl) (by kernel_rfl) (fun _ _ _ h => h) (Or.inl ⟨by rfl, ?_⟩) (by assumption) ?_
        rotate_left 1
        · (intro w hSw; (try dsimp only at hSw); go_simp; try with_reducible rfl)
        try simp only [Act.put, List.setIfInBounds_toArray, List.set_cons_zero, List.set_cons_succ]
        refine wpAnyH_take (i := 6) (v := ?_) (by simp only [List.getElem?_toArray, List.getElem?_cons_succ, List.getElem?_cons_zero]; rfl) (by kernel_rfl) (by kernel_rfl) (by kernel_rfl) (fun _ _ _ h => h) (Or.inl ⟨by rfl, ?_⟩) (by assumption) ?_
        rotate_left 1
        · (intro w hSw; (try dsimp only at hSw); go_simp; try with_reducible rfl)
        try simp only [Act.put, List.setIfInBounds_toArray, List.set_cons_zero, List.set_cons_succ]
        refine wpAnyH_take (i := 7) (v := ?_) (by simp only [List.getElem?_toArray, List.getElem?_cons_succ, List.getElem?_cons_zero]; rfl) (by kernel_rfl) (by kernel_rfl) (by kernel_rfl) (fun _ _ _ h => h) (Or.inl ⟨by rfl, ?_⟩) (by assumption) ?_
        rotate_left 1
        · (intro w hSw; (try dsimp only at hSw); go_simp; try with_reducible rfl)
        try simp only [Act.put, List.setIfInBounds_toArray, List.set_cons_zero, List.set_cons_succ]
        refine wpAnyH_take (i := 9) (v := ?_) (by simp only [List.getElem?_toArray, List.getElem?_cons_succ, List.getElem?_cons_zero]; rfl) (by kernel_rfl) (by kernel_rfl) (by kernel_rfl) (fun _ _ _ h => h) (Or.inl ⟨by rfl, ?_⟩) (by assumption) ?_
        rotate_left 1
        · (intro w hSw; (try dsimp only at hSw); go_simp; try with_reducible rfl)
        try simp only [Act.put, List.setIfInBounds_toArray, List.set_cons_zero, List.set_cons_succ]
        refine region_rows (fuel := 2) (w0 := w6) (base := w6.heap.size) (stop := 12) (C := [⟨2, 41, [], [], RowF 3 w6.heap.size []⟩, ⟨8, 47, [2], [2], RowF 3 w6.heap.size (intC fl.ls)⟩, ⟨10, 49, [], [], BufF 3 w6.heap.size [.int .i64 n]⟩, ⟨11, 50, [8], [8, 10], RowF 3 w6.heap.size (intC fl.ls ++ [.int .i64 n])⟩])
          (ok_of_cd (by kernel_rfl)) ?hok ?hst ?hS (Below.refl _ _) (Nat.le_refl _) ?hend
        case hok =>
          intro y hy
          simp only [List.mem_cons, List.not_mem_nil, or_false] at hy
          rcases hy with rfl | rfl | rfl | rfl
          · exact rowF_ok _ _ _ _ _ _ _
          · exact rowF_ok _ _ _ _ _ _ _
          · exact bufF_ok _ _ _ _ _ _ _
          · exact rowF_ok _ _ _ _ _ _ _
        case hS =>
          intro w' hb _
          exact CC7.out w' (BD.out.trans (hb.mono ws.out))
        case hst =>
          have hl6 : fl.ls.length ≤ 100000 := by rw [← HM6.out]; exact h6b
          intro y hy
          simp only [List.mem_cons, List.not_mem_nil, or_false] at hy
          rcases hy with rfl | rfl | rfl | rfl
          · exact step_empty (by simp only [List.getElem?_toArray, List.getElem?_cons_succ, List.getElem?_cons_zero]; rfl) (by rfl) (by rfl) (by rfl) rfl
          · exact step_src (by simp only [List.getElem?_toArray, List.getElem?_cons_succ, List.getElem?_cons_zero]; rfl) (by rfl) (by rfl) 41 46 (by rfl) ⟨2, 41, [], [], RowF 3 w6.heap.size []⟩ (by simp) rfl (by simp) (by simp) [] rfl (by intro z hz; simp only [List.mem_cons, List.not_mem_nil, or_false] at hz; rcases hz with rfl | rfl | rfl | rfl <;> simp) w6.heap.size A6 m6 c6 fl.ls (by rfl) SI2.out (Nat.le_refl _) (by simp; omega) rfl
          · exact step_buf1 (by simp only [List.getElem?_toArray, List.getElem?_cons_succ, List.getElem?_cons_zero]; rfl) (by rfl) (by rfl) 48 (by rfl) (by intro z hz; simp only [List.mem_cons, List.not_mem_nil, or_false] at hz; rcases hz with rfl | rfl | rfl | rfl <;> simp) n (by rfl) rfl
          · exact step_add (by simp only [List.getElem?_toArray, List.getElem?_cons_succ, List.getElem?_cons_zero]; rfl) (by rfl) (by rfl) 47 49 (by rfl) ⟨8, 47, [2], [2], RowF 3 w6.heap.size (intC fl.ls)⟩ (by simp) rfl (by simp) (by simp) (intC fl.ls) rfl ⟨10, 49, [], [], BufF 3 w6.heap.size [.int .i64 n]⟩ (by simp) rfl (by simp) n rfl (by rw [intC_len]; omega) rfl
        case hend =>
          intro vals w7 hb7 hs7 hF hap
          have f6 := hF ⟨11, 50, [8], [8, 10], RowF 3 w6.heap.size (intC fl.ls ++ [.int .i64 n])⟩ (by simp) (by simp)
          clear hF hap
          simp only at f6
          obtain ⟨A7, n7, c7, hv, ho⟩ := f6
          have hn7 := own_lenI2 ho
          subst hn7
          simp only [List.foldl_cons, List.foldl_nil, hv]
          generalize vals 2 = v2
          generalize vals 8 = v8
          generalize vals 10 = v10
          clear hv
          simp only [Act.put, List.setIfInBounds_toArray, List.set_cons_zero, List.set_cons_succ]
          have hN7 : (intC fl.ls ++ [Value.int .i64 n]).length = m6 + 1 := by rw [List.length_append, intC_len, ← HM6.out]; rfl
          rw [hN7] at ho ⊢
          have hN8 : (fl.ls ++ [n]).length = m6 + 1 := by rw [List.length_append, ← HM6.out]; rfl
          have hbw : base ≤ w6.heap.size := Nat.le_trans HB.out (Nat.le_trans BF5.out.size ws.out)
          rw [intC_app] at ho
          have I7 := hide ((RwAt.of_own (base := base) ho).lo_ hbw)
          have B7 := hide (BD.out.trans (hb7.mono ws.out))
          have KP7 := hide (KP5.out.below B7.out)
          have KR7 := hide (KR5.out.below B7.out)
          have HGB7 := hide (show ∃ cs, Blk w7 g 28 cs from by obtain ⟨cs, h⟩ := HGB.out; exact ⟨cs, h.below B7.out⟩)
          have f7 := HGB7.out.elim (fun cs h => h.frozen (q * 3 + 2))
          have hH7 := CC7.out _ B7.out
          have R7 := hide (HS.out w7 A7 c7 (fl.ls ++ [n]) B7.out (by rw [hN8]; exact I7.out))
          rw [hN8] at R7
          clear hb7 ho hN7 hN8 hHeld hs7
          have hHeld := hH7
          clear hH7
          refine wpAnyH_take (i := 12) (v := ?_) (by simp only [List.getElem?_toArray, List.getElem?_cons_succ, List.getElem?_cons_zero]; rfl) (by kernel_rfl) (by kernel_rfl) (by kernel_rfl) (fun _ _ _ h => h) (Or.inl ⟨by rfl, ?_⟩) (by assumption) ?_
          rotate_left 1
          · (intro w hSw; (try dsimp only at hSw); go_simp; try with_reducible rfl)
          try simp only [Act.put, List.setIfInBounds_toArray, List.set_cons_zero, List.set_cons_succ]
          refine wpAnyH_take (i := 13) (v := ?_) (by simp only [List.getElem?_toArray, List.getElem?_cons_succ, List.getElem?_cons_zero]; rfl) (by kernel_rfl) (by kernel_rfl) (by kernel_rfl) (fun _ _ _ h => h) (Or.inl ⟨by rfl, ?_⟩) (by assumption) ?_
          rotate_left 1
          · (intro w hSw; (try dsimp only at hSw); go_simp; try with_reducible rfl)
          try simp only [Act.put, List.setIfInBounds_toArray, List.set_cons_zero, List.set_cons_succ]
          refine wpAnyH_done (by kernel_rfl) ?_ _
          refine LastQ.step (by simp only [List.getElem?_toArray, List.getElem?_cons_succ, List.getElem?_cons_zero]; rfl) (by rfl) ?_
          go_simp
          refine NoPanic.normal ?_
          have hgb : g ≠ w.heap.size ∧ g ≠ w.heap.size + 1 := by
            obtain ⟨cs, h⟩ := HGB7.out
            constructor
            · rintro rfl
              exact absurd (Blk.type h KP7.out).1 (by decide)
            · rintro rfl
              exact absurd (Blk.type h KR7.out).1 (by decide)
          have KP8 := hide (KP7.out.far (p := ⟨g, q * 3 + 2, none⟩) (Ne.symm hgb.1) (.slice A7 (m6 + 1) c7))
          have KR8 := hide (KR7.out.far (p := ⟨g, q * 3 + 2, none⟩) (Ne.symm hgb.2) (.slice A7 (m6 + 1) c7))
          have BF8 : Hid (Below w.heap.size w (w7.setCell ⟨g, q * 3 + 2, none⟩ (.slice A7 (m6 + 1) c7))) := hide ((BF5.out.trans (B7.out.mono BF5.out.size)).setCell (p := ⟨g, q * 3 + 2, none⟩) (by
            show w.heap.size ≤ g
            exact Nat.le_trans (Nat.le_trans HBW.out.size (Nat.le_refl _)) GW.out) _)
          obtain ⟨w8, hw8⟩ : ∃ w8, w8 = w7.setCell ⟨g, q * 3 + 2, none⟩ (.slice A7 (m6 + 1) c7) := ⟨_, rfl⟩
          rw [← hw8] at KP8 KR8 BF8 R7 ⊢
          clear hw8 hHeld f7 hgb
          have x1 := KP8.out.cell 1
          have xf := KP8.out.frozen 1
          go_upto_region 9 with fail
          have KP9 := KP8.out.set 1 (.slice (some ⟨g, 0, none⟩) (q + 1) c3)
          simp only [List.setIfInBounds_toArray, List.set_cons_zero, List.set_cons_succ] at KP9
          have KR9 := KR8.out.far (p := ⟨w.heap.size, 1, none⟩) (Nat.succ_ne_self _) (.slice (some ⟨g, 0, none⟩) (q + 1) c3)
          have R9 := hide (R7.out.far (p := ⟨w.heap.size, 1, none⟩) KP8.out HB.out (by decide) (by decide) (.slice (some ⟨g, 0, none⟩) (q + 1) c3))
          have BF9 := hide (BF8.out.setCell (p := ⟨w.heap.size, 1, none⟩) (Nat.le_refl _) (.slice (some ⟨g, 0, none⟩) (q + 1) c3))
          generalize w8.setCell ⟨w.heap.size, 1, none⟩ (.slice (some ⟨g, 0, none⟩) (q + 1) c3) = w9 at *
          clear x1 xf
          have x0 := KP9.cell 0
          have x1 := KP9.cell 1
          have x2 := KP9.cell 2
          have y0 := KR9.cell 0
          have y1 := KR9.cell 1
          have y2 := KR9.cell 2
          have yf0 := KR9.frozen 0
          have yf1 := KR9.frozen 1
          have yf2 := KR9.frozen 2
          simp only [List.getElem?_toArray, List.getElem?_cons_succ, List.getElem?_cons_zero] at x0 x1 x2 y0 y1 y2
          have KR9 := hide KR9
          go_wp2_with fail
          have K1 := KR9.out.set 0 (.bool p.nw)
          have K2 := K1.set 1 (.slice (some ⟨g, 0, none⟩) (q + 1) c3)
          have KF := K2.set 2 (.slice A2 m2 c2)
          have F1 := R9.out.far (p := ⟨w.heap.size + 1, 0, none⟩) KR9.out (Nat.le_succ_of_le HB.out) (by decide) (by decide) (.bool p.nw)
          have F2 := F1.far (p := ⟨w.heap.size + 1, 1, none⟩) K1 (Nat.le_succ_of_le HB.out) (by decide) (by decide) (.slice (some ⟨g, 0, none⟩) (q + 1) c3)
          have F3 := F2.far (p := ⟨w.heap.size + 1, 2, none⟩) K2 (Nat.le_succ_of_le HB.out) (by decide) (by decide) (.slice A2 m2 c2)
          simp only [List.setIfInBounds_toArray, List.set_cons_zero, List.set_cons_succ] at KF
          refine bodyPost_ret (results_cell_slot (g := w.heap.size + 1) (cs := #[.bool p.nw, .slice (some ⟨g, 0, none⟩) (q + 1) c3, .slice A2 m2 c2]) (t := 37) (fr := (0, 0)) rfl _ _ (v := .bool true) (hp := rfl) (hq := rfl) (hg := KF) (hu := Tryd.underlying37) (hd := rfl) (hi := by kernel_rfl)) rfl ?_
          have hsp : ∀ i, w.heap.size ≤ (Addr.mk (w.heap.size + 1) i none).block := fun i => Nat.le_succ _
          have BFF := ((BF9.out.setCell (hsp 0) (.bool p.nw)).setCell (hsp 1) (.slice (some ⟨g, 0, none⟩) (q + 1) c3)).setCell (hsp 2) (.slice A2 m2 c2)
          have hlq : (l.set q { fl with ls := fl.ls ++ [n] }).length = q + 1 := by rw [List.length_set]; exact R5.out.len
          rw [AD.out]
          exact ⟨some ⟨g, 0, none⟩, ⟨c3, by rw [hlq]⟩, fis_len F3.fis hlq.symm, BFF⟩
  · have hb1 : (file == i) = false := by rw [beq_eq_false_iff_ne]; exact hfi
    have hb2 : (file != i) = true := by rw [bne_iff_ne]; exact hfi
    refine wp_region_noPanic ?_
    refine wp_region_held_drew (S := (fun w' => w'.cell? ⟨k, 3, none⟩ = some (.int .i64 file) ∧ w'.cell? ⟨b1, 0, none⟩ = some (.pointer (some ⟨k, 0, none⟩)) ∧ w'.cell? ⟨b2, 0, none⟩ = some (.int .i64 i))) (by kernel_rfl) ?_ (fun hHeld => ?_)
    · ((try dsimp only) <;> (first | trivial | assumption | go_keep))
    refine wpAnyH_take (i := 0) (v := ?_) (by simp only [List.getElem?_toArray, List.getElem?_cons_succ, List.getElem?_cons_zero]; rfl) (by kernel_rfl) (by kernel_rfl) (by kernel_rfl) (fun _ _ _ h => h) (Or.inl ⟨by rfl, ?_⟩) (by assumption) ?_
    rotate_left 1
    · (intro w hSw; (try dsimp only at hSw); go_simp; try with_reducible rfl)
    try simp only [Act.put, List.setIfInBounds_toArray, List.set_cons_zero, List.set_cons_succ]
    refine wpAnyH_take (i := 1) (v := ?_) (by simp only [List.getElem?_toArray, List.getElem?_cons_succ, List.getElem?_cons_zero]; rfl) (by kernel_rfl) (by kernel_rfl) (by kernel_rfl) (fun _ _ _ h => h) (Or.inl ⟨by rfl, ?_⟩) (by assumption) ?_
    rotate_left 1
    · (intro w hSw; (try dsimp only at hSw); go_simp; try with_reducible rfl)
    try simp only [Act.put, List.setIfInBounds_toArray, List.set_cons_zero, List.set_cons_succ]
    refine wpAnyH_take (i := 2) (v := ?_) (by simp only [List.getElem?_toArray, List.getElem?_cons_succ, List.getElem?_cons_zero]; rfl) (by kernel_rfl) (by kernel_rfl) (by kernel_rfl) (fun _ _ _ h => h) (Or.inl ⟨by rfl, ?_⟩) (by assumption) ?_
    rotate_left 1
    · (intro w hSw; (try dsimp only at hSw); go_simp; try with_reducible rfl)
    try simp only [Act.put, List.setIfInBounds_toArray, List.set_cons_zero, List.set_cons_succ]
    refine wpAnyH_take (i := 3) (v := ?_) (by simp only [List.getElem?_toArray, List.getElem?_cons_succ, List.getElem?_cons_zero]; rfl) (by kernel_rfl) (by kernel_rfl) (by kernel_rfl) (fun _ _ _ h => h) (Or.inl ⟨by rfl, ?_⟩) (by assumption) ?_
    rotate_left 1
    · (intro w hSw; (try dsimp only at hSw); go_simp; try with_reducible rfl)
    try simp only [Act.put, List.setIfInBounds_toArray, List.set_cons_zero, List.set_cons_succ]
    refine wpAnyH_take (i := 4) (v := ?_) (by simp only [List.getElem?_toArray, List.getElem?_cons_succ, List.getElem?_cons_zero]; rfl) (by kernel_rfl) (by kernel_rfl) (by kernel_rfl) (fun _ _ _ h => h) (Or.inl ⟨by rfl, ?_⟩) (by assumption) ?_
    rotate_left 1
    · (intro w hSw; (try dsimp only at hSw); go_simp; try with_reducible rfl)
    try simp only [Act.put, List.setIfInBounds_toArray, List.set_cons_zero, List.set_cons_succ]
    refine wpAnyH_take (i := 5) (v := ?_) (by simp only [List.getElem?_toArray, List.getElem?_cons_succ, List.getElem?_cons_zero]; rfl) (by kernel_rfl) (by kernel_rfl) (by kernel_rfl) (fun _ _ _ h => h) (Or.inl ⟨by rfl, ?_⟩) (by assumption) ?_
    rotate_left 1
    · (intro w hSw; (try dsimp only at hSw); go_simp; try with_reducible rfl)
    try simp only [Act.put, List.setIfInBounds_toArray, List.set_cons_zero, List.set_cons_succ]
    refine wpAnyH_done (by kernel_rfl) ?_ _
    refine NoPanic.normal ?_
    clear hHeld
    have ONE := fun w0 : World => one_slice etyF w0 #[.int .i64 f.ino, .int .i64 f.ver, .slice none 0 0] rfl (by decide)
    generalize w3.drew = w4 at *
    have b4' := (Below.refl w4.heap.size w4).alloc (Nat.le_refl _) (.cells #[.int .i64 f.ino, .int .i64 f.ver, .slice none 0 0] 28)
    have b4h := hide b4'
    obtain ⟨ds, d1, d2, d3, d4⟩ := R4.out.below b4'
    have D := hide (And.intro d1 d2)
    have D3 := hide d3
    have D4 := hide d4
    have SN := hide (slc_new w4 [.int .i64 f.ino, .int .i64 f.ver, .slice none 0 0] 28 (m := 1) (k := 3) rfl)
    have hb5 : base ≤ (w4.alloc (.cells #[.int .i64 f.ino, .int .i64 f.ver, .slice none 0 0] 28)).heap.size := Nat.le_trans HB.out (Nat.le_trans HBW.out.size (Nat.le_trans BB4.out.size b4'.size))
    clear d1 d2 d3 d4 b4'
    go_upto_region 4 with (
      at_builtin
      refine wpList_appK rfl (.tmp 20) (.tmp 26) _ rfl etyF base (.slice A3 m1 c3) m1 ds.flatten rfl D3.out _ (some ⟨w4.heap.size, 0, none⟩) 1 1 [.int .i64 f.ino, .int .i64 f.ver, .slice none 0 0] rfl SN.out (by simp [Value.oneCell']) (by omega) hb5 ?_
      intro A5 c5 w5 hown hg hnew
      have RR : Hid (FRow base w5 A5 (m1 + 1) c5 (p.fs ++ [⟨f.ino, f.ver, []⟩])) := hide (by
        have := FRow.app (base := base) (gs := [⟨f.ino, f.ver, []⟩]) (cs := ds) (ds := [[.int .i64 f.ino, .int .i64 f.ver, .slice none 0 0]]) (fs := p.fs) (m := m1 + 1) (k := 1) D.out.1 D.out.2 D3.out D4.out rfl rfl (fun j x q hx hq => by
          cases j with
          | zero =>
            simp at hx hq
            subst hx hq
            exact ⟨none, 0, rfl, RwAt.nil⟩
          | succ j => simp at hx) rfl (by simpa using hown) hg
        exact this)
      have BB5 := hide (bel_gr (BB4.out.trans (b4h.out.mono BB4.out.size)) hg GG.out (Nat.le_trans BB4.out.size b4h.out.size))
      have GG5 : Hid (∀ g, (Value.slice A5 (m1 + 1) c5).ownBlock = some g → w1.heap.size ≤ g) := hide (fun g hgg => by
        rcases hnew with h | h
        · rw [h] at hgg; exact GG.out g hgg
        · rw [h] at hgg
          simp at hgg
          have := BB4.out.size
          omega)
      clear hown hg hnew)
    replace GG := GG5
    clear s0 s1 s2 s3 s4 s5 ONE GG5 hb5 R4 R3 D D3 D4 SN b4h
    obtain ⟨l, hl⟩ : ∃ l, l = filesL file i f p := ⟨_, rfl⟩
    have hlp : l = p.fs ++ [⟨f.ino, f.ver, []⟩] := by rw [hl]; unfold filesL; rw [if_neg hfi]
    have LL : Hid (l = filesL file i f p) := hide hl
    have LE : Hid (l.length ≤ 100001) := hide (by rw [hlp, List.length_append, ← HM1.out]; simp; omega)
    have LB : Hid (lsN l ≤ 100000) := hide (by rw [hlp, lsN_app]; have := HL.out; simpa [lsN, sumN] using this)
    have LN : Hid (l ≠ []) := hide (by rw [hlp]; simp)
    have R5 : Hid (FRow base w5 A5 (m1 + 1) c5 l) := hide (by rw [hlp]; exact RR.out)
    obtain ⟨nl, hnl⟩ : ∃ x, x = m1 + 1 := ⟨_, rfl⟩
    rw [← hnl] at R5 GG ⊢
    clear hl hlp RR hnl hb1 hb2 hfi
    obtain ⟨q, hq⟩ : ∃ q, nl = q + 1 := ⟨nl - 1, by have := R5.out.len; have := List.length_pos_iff.2 LN.out; omega⟩
    have hqb : q ≤ 100000 := by have := R5.out.len; have := LE.out; omega
    have hw64 : IntKind.i64.wrap (q : Int) = (q : Int) := by rw [IntKind.wrap_i64]; omega
    have hqs : (q : Int) < (q : Int) + 1 := by omega
    rw [hq] at R5 ⊢
    have HQ := hide hq
    clear hq
    obtain ⟨g, fl, A6, c6, hA, hbg, hgb, hfl, hi6, hc6, hset⟩ := R5.out.at (j := q) (Nat.lt_succ_self q)
    subst hA
    have hll := hide (Option.some.inj ((hfl.symm).trans (lastL_at R5.out.len)))
    have h6b : Hid (fl.ls.length ≤ 100000) := hide (Nat.le_trans (lsN_mem hfl) LB.out)
    obtain ⟨m6, hm6⟩ : ∃ m, m = fl.ls.length := ⟨_, rfl⟩
    rw [← hm6] at hc6 h6b hi6
    have HM6 := hide hm6
    have H6 := hide hi6
    have HS := hide hset
    have HGB := hide hgb
    have GW : Hid (w1.heap.size ≤ g) := hide (GG.out g rfl)
    have HFL := hide hfl
    have h6b := h6b.out
    have BF5 := hide (HBW.out.trans (BB5.out.mono HBW.out.size))
    have KP5 := hide (KP.out.below BB5.out)
    have KR5 := hide (KR.out.below BB5.out)
    clear hm6 hi6 hset hgb hfl
    by_cases h30 : m6 = 30
    · subst h30
      have AD : Hid (addL file i f n p = (p, false)) := hide (by unfold addL; rw [← LL.out, if_pos (by rw [← hll.out, ← HM6.out])])
      have x0 := KP5.out.cell 0
      have x1 := KP5.out.cell 1
      have x2 := KP5.out.cell 2
      have y0 := KR5.out.cell 0
      have y1 := KR5.out.cell 1
      have y2 := KR5.out.cell 2
      have yf0 := KR5.out.frozen 0
      have yf1 := KR5.out.frozen 1
      have yf2 := KR5.out.frozen 2
      simp only [List.getElem?_toArray, List.getElem?_cons_succ, List.getElem?_cons_zero] at x0 x1 x2 y0 y1 y2
      go_wp2_with fail
      have KF := ((KR5.out.set 0 (.bool p.nw)).set 1 (.slice A1 m1 c1)).set 2 (.slice A2 m2 c2)
      simp only [List.setIfInBounds_toArray, List.set_cons_zero, List.set_cons_succ] at KF
      refine bodyPost_ret (results_cell_slot (g := w.heap.size + 1) (cs := #[.bool p.nw, .slice A1 m1 c1, .slice A2 m2 c2]) (t := 37) (fr := (0, 0)) rfl _ _ (v := .bool false) (hp := rfl) (hq := rfl) (hg := KF) (hu := Tryd.underlying37) (hd := rfl) (hi := by kernel_rfl)) rfl ?_
      have hsp : ∀ i, w.heap.size ≤ (Addr.mk (w.heap.size + 1) i none).block := fun i => Nat.le_succ _
      have BFF := ((BF5.out.setCell (hsp 0) (.bool p.nw)).setCell (hsp 1) (.slice A1 m1 c1)).setCell (hsp 2) (.slice A2 m2 c2)
      rw [AD.out]
      exact ⟨A1, c1, by rw [HM1.out], fis_len (HF.out.below BFF) HM1.out, BFF⟩
    · have h30b : ((m6 : Int) == 30) = false := by rw [beq_eq_false_iff_ne]; omega
      go_upto_region 7 with fail
      have AD : Hid (addL file i f n p = ({ p with fs := l.set q { fl with ls := fl.ls ++ [n] } }, true)) := hide (by unfold addL; rw [← LL.out, ← hll.out, if_neg (by rw [← HM6.out]; exact h30), R5.out.len, Nat.add_sub_cancel])
      have CC7 := hide (fun (w' : World) (hb : Below w5.heap.size w5 w') => show w'.cell? ⟨g, q * 3 + 2, none⟩ = some (.slice A6 m6 c6) ∧ w'.cell? ⟨b4, 0, none⟩ = some (.int .i64 n) from ⟨(hb.cell (p := ⟨g, q * 3 + 2, none⟩) (by obtain ⟨_, h⟩ := HGB.out; exact h.lt)).trans hc6, (CC.out w' (BB5.out.trans (hb.mono BB5.out.size))).2.2.2.2.2⟩)
      have s0 := CC7.out _ (Below.refl _ _).drew
      clear hc6
      refine wp_region_noPanic ?_
      refine wp_region_last (n := 14) (S := (fun w' => w'.cell? ⟨g, q * 3 + 2, none⟩ = some (.slice A6 m6 c6) ∧ w'.cell? ⟨b4, 0, none⟩ = some (.int .i64 n))) (by kernel_rfl) (by rfl) (by kernel_rfl) ?_ (fun hHeld => ?_)
      · ((try dsimp only) <;> (first | trivial | assumption | go_keep))
      clear s0
      have BD := hide ((Below.refl w5.heap.size w5).drew)
      have SI2 := hide ((RwAt.below H6.out BD.out).sl)
      have ws : Hid (w5.heap.size ≤ w5.drew.heap.size) := hide (Nat.le_refl _)
      generalize w5.drew = w6 at *
      refine wpAnyH_take (i := 0) (v := ?_) (by simp only [List.getElem?_toArray, List.getElem?_cons_succ, List.getElem?_cons_zero]; rfl) (by kernel_rfl) (by kernel_rfl) (by kernel_rfl) (fun _ _ _ h => h) (Or.inl ⟨by rfl, ?_⟩) (by assumption) ?_
      rotate_left 1
      · (intro w hSw; (try dsimp only at hSw); go_simp; try with_reducible rfl)
      try simp only [Act.put, List.setIfInBounds_toArray, List.set_cons_zero, List.set_cons_succ]
      refine wpAnyH_take (i := 1) (v := ?_) (by simp only [List.getElem?_toArray, List.getElem?_cons_succ, List.getElem?_cons_zero]; rfl) (by kernel_rfl) (by kernel_rfl) (by kernel_rfl) (fun _ _ _ h => h) (Or.inl ⟨by rfl, ?_⟩) (by assumption) ?_
      rotate_left 1
      · (intro w hSw; (try dsimp only at hSw); go_simp; try with_reducible rfl)
      try simp only [Act.put, List.setIfInBounds_toArray, List.set_cons_zero, List.set_cons_succ]
      refine wpAnyH_take (i := 3) (v := ?_) (by simp only [List.getElem?_toArray, List.getElem?_cons_succ, List.getElem?_cons_zero]; rfl) (by kernel_rfl) (by kernel_rfl) (by kernel_rfl) (fun _ _ _ h => h) (Or.inl ⟨by rfl, ?_⟩) (by assumption) ?_
      rotate_left 1
      · (intro w hSw; (try dsimp only at hSw); go_simp; try with_reducible rfl)
      try simp only [Act.put, List.setIfInBounds_toArray, List.set_cons_zero, List.set_cons_succ]
      refine wpAnyH_take (i := 4) (v := ?_) (by simp only [List.getElem?_toArray, List.getElem?_cons_succ, List.getElem?_cons_zero]; rfl) (by kernel_rfl) (by kernel_rfl) (by kernel_rfl) (fun _ _ _ h => h) (Or.inl ⟨by rfl, ?_⟩) (by assumption) ?_
      rotate_left 1
      · (intro w hSw; (try dsimp only at hSw); go_simp; try with_reducible rfl)
      try simp only [Act.put, List.setIfInBounds_toArray, List.set_cons_zero, List.set_cons_succ]
      refine wpAnyH_take (i := 5) (v := ?_) (by simp only [List.getElem?_toArray, List.getElem?_cons_succ, List.getElem?_cons_zero]; rfl) (by kernel_rfl) (by kernel_rfl) (by kernel_rfl) (fun _ _ _ h => h) (Or.inl ⟨by rfl, ?_⟩) (by assumption) ?_
      rotate_left 1
      · (intro w hSw; (try dsimp only at hSw); go_simp; try with_reducible rfl)
      try simp only [Act.put, List.setIfInBounds_toArray, List.set_cons_zero, List.set_cons_succ]
      refine wpAnyH_take (i := 6) (v := ?_) (by simp only [List.getElem?_toArray, List.getElem?_cons_succ, List.getElem?_cons_zero]; rfl) (by kernel_rfl) (by kernel_rfl) (by kernel_rfl) (fun _ _ _ h => h) (Or.inl ⟨by rfl, ?_⟩) (by assumption) ?_
      rotate_left 1
      · (intro w hSw; (try dsimp only at hSw); go_simp; try with_reducible rfl)
      try simp only [Act.put, List.setIfInBounds_toArray, List.set_cons_zero, List.set_cons_succ]
      refine wpAnyH_take (i := 7) (v := ?_) (by simp only [List.getElem?_toArray, List.getElem?_cons_succ, List.getElem?_cons_zero]; rfl) (by kernel_rfl) (by kernel_rfl) (by kernel_rfl) (fun _ _ _ h => h) (Or.inl ⟨by rfl, ?_⟩) (by assumption) ?_
      rotate_left 1
      · (intro w hSw; (try dsimp only at hSw); go_simp; try with_reducible rfl)
      try simp only [Act.put, List.setIfInBounds_toArray, List.set_cons_zero, List.set_cons_succ]
      refine wpAnyH_take (i := 9) (v := ?_) (by simp only [List.getElem?_toArray, List.getElem?_cons_succ, List.getElem?_cons_zero]; rfl) (by kernel_rfl) (by kernel_rfl) (by kernel_rfl) (fun _ _ _ h => h) (Or.inl ⟨by rfl, ?_⟩) (by assumption) ?_
      rotate_left 1
      · (intro w hSw; (try dsimp only at hSw); go_simp; try with_reducible rfl)
      try simp only [Act.put, List.setIfInBounds_toArray, List.set_cons_zero, List.set_cons_succ]
      refine region_rows (fuel := 2) (w0 := w6) (base := w6.heap.size) (stop := 12) (C := [⟨2, 41, [], [], RowF 3 w6.heap.size []⟩, ⟨8, 47, [2], [2], RowF 3 w6.heap.size (intC fl.ls)⟩, ⟨10, 49, [], [], BufF 3 w6.heap.size [.int .i64 n]⟩, ⟨11, 50, [8], [8, 10], RowF 3 w6.heap.size (intC fl.ls ++ [.int .i64 n])⟩])
        (ok_of_cd (by kernel_rfl)) ?hok ?hst ?hS (Below.refl _ _) (Nat.le_refl _) ?hend
      case hok =>
        intro y hy
        simp only [List.mem_cons, List.not_mem_nil, or_false] at hy
        rcases hy with rfl | rfl | rfl | rfl
        · exact rowF_ok _ _ _ _ _ _ _
        · exact rowF_ok _ _ _ _ _ _ _
        · exact bufF_ok _ _ _ _ _ _ _
        · exact rowF_ok _ _ _ _ _ _ _
      case hS =>
        intro w' hb _
        exact CC7.out w' (BD.out.trans (hb.mono ws.out))
      case hst =>
        have hl6 : fl.ls.length ≤ 100000 := by rw [← HM6.out]; exact h6b
        intro y hy
        simp only [List.mem_cons, List.not_mem_nil, or_false] at hy
        rcases hy with rfl | rfl | rfl | rfl
        · exact step_empty (by simp only [List.getElem?_toArray, List.getElem?_cons_succ, List.getElem?_cons_zero]; rfl) (by rfl) (by rfl) (by rfl) rfl
        · exact step_src (by simp only [List.getElem?_toArray, List.getElem?_cons_succ, List.getElem?_cons_zero]; rfl) (by rfl) (by rfl) 41 46 (by rfl) ⟨2, 41, [], [], RowF 3 w6.heap.size []⟩ (by simp) rfl (by simp) (by simp) [] rfl (by intro z hz; simp only [List.mem_cons, List.not_mem_nil, or_false] at hz; rcases hz with rfl | rfl | rfl | rfl <;> simp) w6.heap.size A6 m6 c6 fl.ls (by rfl) SI2.out (Nat.le_refl _) (by simp; omega) rfl
        · exact step_buf1 (by simp only [List.getElem?_toArray, List.getElem?_cons_succ, List.getElem?_cons_zero]; rfl) (by rfl) (by rfl) 48 (by rfl) (by intro z hz; simp only [List.mem_cons, List.not_mem_nil, or_false] at hz; rcases hz with rfl | rfl | rfl | rfl <;> simp) n (by rfl) rfl
        · exact step_add (by simp only [List.getElem?_toArray, List.getElem?_cons_succ, List.getElem?_cons_zero]; rfl) (by rfl) (by rfl) 47 49 (by rfl) ⟨8, 47, [2], [2], RowF 3 w6.heap.size (intC fl.ls)⟩ (by simp) rfl (by simp) (by simp) (intC fl.ls) rfl ⟨10, 49, [], [], BufF 3 w6.heap.size [.int .i64 n]⟩ (by simp) rfl (by simp) n rfl (by rw [intC_len]; omega) rfl
      case hend =>
        intro vals w7 hb7 hs7 hF hap
        have f6 := hF ⟨11, 50, [8], [8, 10], RowF 3 w6.heap.size (intC fl.ls ++ [.int .i64 n])⟩ (by simp) (by simp)
        clear hF hap
        simp only at f6
        obtain ⟨A7, n7, c7, hv, ho⟩ := f6
        have hn7 := own_lenI2 ho
        subst hn7
        simp only [List.foldl_cons, List.foldl_nil, hv]
        generalize vals 2 = v2
        generalize vals 8 = v8
        generalize vals 10 = v10
        clear hv
        simp only [Act.put, List.setIfInBounds_toArray, List.set_cons_zero, List.set_cons_succ]
        have hN7 : (intC fl.ls ++ [Value.int .i64 n]).length = m6 + 1 := by rw [List.length_append, intC_len, ← HM6.out]; rfl
        rw [hN7] at ho ⊢
        have hN8 : (fl.ls ++ [n]).length = m6 + 1 := by rw [List.length_append, ← HM6.out]; rfl
        have hbw : base ≤ w6.heap.size := Nat.le_trans HB.out (Nat.le_trans BF5.out.size ws.out)
        rw [intC_app] at ho
        have I7 := hide ((RwAt.of_own (base := base) ho).lo_ hbw)
        have B7 := hide (BD.out.trans (hb7.mono ws.out))
        have KP7 := hide (KP5.out.below B7.out)
        have KR7 := hide (KR5.out.below B7.out)
        have HGB7 := hide (show ∃ cs, Blk w7 g 28 cs from by obtain ⟨cs, h⟩ := HGB.out; exact ⟨cs, h.below B7.out⟩)
        have f7 := HGB7.out.elim (fun cs h => h.frozen (q * 3 + 2))
        have hH7 := CC7.out _ B7.out
        have R7 := hide (HS.out w7 A7 c7 (fl.ls ++ [n]) B7.out (by rw [hN8]; exact I7.out))
        rw [hN8] at R7
        clear hb7 ho hN7 hN8 hHeld hs7
        have hHeld := hH7
        clear hH7
        refine wpAnyH_take (i := 12) (v := ?_) (by simp only [List.getElem?_toArray, List.getElem?_cons_succ, List.getElem?_cons_zero]; rfl) (by kernel_rfl) (by kernel_rfl) (by kernel_rfl) (fun _ _ _ h => h) (Or.inl ⟨by rfl, ?_⟩) (by assumption) ?_
        rotate_left 1
        · (intro w hSw; (try dsimp only at hSw); go_simp; try with_reducible rfl)
        try simp only [Act.put, List.setIfInBounds_toArray, List.set_cons_zero, List.set_cons_succ]
        refine wpAnyH_take (i := 13) (v := ?_) (by simp only [List.getElem?_toArray, List.getElem?_cons_succ, List.getElem?_cons_zero]; rfl) (by kernel_rfl) (by kernel_rfl) (by kernel_rfl) (fun _ _ _ h => h) (Or.inl ⟨by rfl, ?_⟩) (by assumption) ?_
        rotate_left 1
        · (intro w hSw; (try dsimp only at hSw); go_simp; try with_reducible rfl)
        try simp only [Act.put, List.setIfInBounds_toArray, List.set_cons_zero, List.set_cons_succ]
        refine wpAnyH_done (by kernel_rfl) ?_ _
        refine LastQ.step (by simp only [List.getElem?_toArray, List.getElem?_cons_succ, List.getElem?_cons_zero]; rfl) (by rfl) ?_
        go_simp
        refine NoPanic.normal ?_
        have hgb : g ≠ w.heap.size ∧ g ≠ w.heap.size + 1 := by
          obtain ⟨cs, h⟩ := HGB7.out
          constructor
          · rintro rfl
            exact absurd (Blk.type h KP7.out).1 (by decide)
          · rintro rfl
            exact absurd (Blk.type h KR7.out).1 (by decide)
        have KP8 := hide (KP7.out.far (p := ⟨g, q * 3 + 2, none⟩) (Ne.symm hgb.1) (.slice A7 (m6 + 1) c7))
        have KR8 := hide (KR7.out.far (p := ⟨g, q * 3 + 2, none⟩) (Ne.symm hgb.2) (.slice A7 (m6 + 1) c7))
        have BF8 : Hid (Below w.heap.size w (w7.setCell ⟨g, q * 3 + 2, none⟩ (.slice A7 (m6 + 1) c7))) := hide ((BF5.out.trans (B7.out.mono BF5.out.size)).setCell (p := ⟨g, q * 3 + 2, none⟩) (by
          show w.heap.size ≤ g
          exact Nat.le_trans (Nat.le_trans HBW.out.size (Nat.le_refl _)) GW.out) _)
        obtain ⟨w8, hw8⟩ : ∃ w8, w8 = w7.setCell ⟨g, q * 3 + 2, none⟩ (.slice A7 (m6 + 1) c7) := ⟨_, rfl⟩
        rw [← hw8] at KP8 KR8 BF8 R7 ⊢
        clear hw8 hHeld f7 hgb
        have x1 := KP8.out.cell 1
        have xf := KP8.out.frozen 1
        go_upto_region 9 with fail
        have KP9 := KP8.out.set 1 (.slice (some ⟨g, 0, none⟩) (q + 1) c5)
        simp only [List.setIfInBounds_toArray, List.set_cons_zero, List.set_cons_succ] at KP9
        have KR9 := KR8.out.far (p := ⟨w.heap.size, 1, none⟩) (Nat.succ_ne_self _) (.slice (some ⟨g, 0, none⟩) (q + 1) c5)
        have R9 := hide (R7.out.far (p := ⟨w.heap.size, 1, none⟩) KP8.out HB.out (by decide) (by decide) (.slice (some ⟨g, 0, none⟩) (q + 1) c5))
        have BF9 := hide (BF8.out.setCell (p := ⟨w.heap.size, 1, none⟩) (Nat.le_refl _) (.slice (some ⟨g, 0, none⟩) (q + 1) c5))
        generalize w8.setCell ⟨w.heap.size, 1, none⟩ (.slice (some ⟨g, 0, none⟩) (q + 1) c5) = w9 at *
        clear x1 xf
        have x0 := KP9.cell 0
        have x1 := KP9.cell 1
        have x2 := KP9.cell 2
        have y0 := KR9.cell 0
        have y1 := KR9.cell 1
        have y2 := KR9.cell 2
        have yf0 := KR9.frozen 0
        have yf1 := KR9.frozen 1
        have yf2 := KR9.frozen 2
        simp only [List.getElem?_toArray, List.getElem?_cons_succ, List.getElem?_cons_zero] at x0 x1 x2 y0 y1 y2
        have KR9 := hide KR9
        go_wp2_with fail
        have K1 := KR9.out.set 0 (.bool p.nw)
        have K2 := K1.set 1 (.slice (some ⟨g, 0, none⟩) (q + 1) c5)
        have KF := K2.set 2 (.slice A2 m2 c2)
        have F1 := R9.out.far (p := ⟨w.heap.size + 1, 0, none⟩) KR9.out (Nat.le_succ_of_le HB.out) (by decide) (by decide) (.bool p.nw)
        have F2 := F1.far (p := ⟨w.heap.size + 1, 1, none⟩) K1 (Nat.le_succ_of_le HB.out) (by decide) (by decide) (.slice (some ⟨g, 0, none⟩) (q + 1) c5)
        have F3 := F2.far (p := ⟨w.heap.size + 1, 2, none⟩) K2 (Nat.le_succ_of_le HB.out) (by decide) (by decide) (.slice A2 m2 c2)
        simp only [List.setIfInBounds_toArray, List.set_cons_zero, List.set_cons_succ] at KF
        refine bodyPost_ret (results_cell_slot (g := w.heap.size + 1) (cs := #[.bool p.nw, .slice (some ⟨g, 0, none⟩) (q + 1) c5, .slice A2 m2 c2]) (t := 37) (fr := (0, 0)) rfl _ _ (v := .bool true) (hp := rfl) (hq := rfl) (hg := KF) (hu := Tryd.underlying37) (hd := rfl) (hi := by kernel_rfl)) rfl ?_
        have hsp : ∀ i, w.heap.size ≤ (Addr.mk (w.heap.size + 1) i none).block := fun i => Nat.le_succ _
        have BFF := ((BF9.out.setCell (hsp 0) (.bool p.nw)).setCell (hsp 1) (.slice (some ⟨g, 0, none⟩) (q + 1) c5)).setCell (hsp 2) (.slice A2 m2 c2)
        have hlq : (l.set q { fl with ls := fl.ls ++ [n] }).length = q + 1 := by rw [List.length_set]; exact R5.out.len
        rw [AD.out]
        exact ⟨some ⟨g, 0, none⟩, c5, by rw [hlq], fis_len F3.fis hlq.symm, BFF⟩
end Go.Proofs.YtopjkpopdffkeaaDoor
