/- The walk over the packer's item, whatever it adds. -/
import Derived.Test.YtopjkpopdffkeaaDoorPkLbnW
set_option linter.unusedVariables false
set_option linter.unusedSimpArgs false
namespace Go.Proofs.YtopjkpopdffkeaaDoor
open Go.RowKit
attribute [local go_sem ↓] Go.wp_at_zero Go.wp_at_succ

/-- What a piece is after a failed or a kept try; the packer after an item. -/
def lastP (st : PkS) : PcP := st.out.getLastD ⟨false, [], []⟩
def itemS (add : Int → PcP → PcP × Bool) (st : PkS) : PkS :=
  if st.out = [] then (tryS (begS st) (add (begS st).file (lastP (begS st))).1).2
  else if (add st.file (lastP st)).2 = true ∧ (tryS st (add st.file (lastP st)).1).1 = true then (tryS st (add st.file (lastP st)).1).2
  else (tryS (begS { st with left := st.left - blkN (lastP st).fs (lastP st).is }) (add (begS { st with left := st.left - blkN (lastP st).fs (lastP st).is }).file (lastP (begS { st with left := st.left - blkN (lastP st).fs (lastP st).is }))).1).2
/-- So a function value adds. -/
def AddOk (base k : Nat) (w : World) (K : FuncId) (caps : Array Value) (add : Int → PcP → PcP × Bool) (Ok : Int → PcP → Prop) : Prop :=
  (∀ args w', (callFunc K args).run Tryd.prog w' = .ok (.enter K args) w') ∧
  (∀ (w' : World) (file : Int) (p : PcP) (A1 : Option Addr) (c1 : Nat) (A2 : Option Addr) (c2 : Nat), Kt TP base w w' → w'.cell? ⟨k, 3, none⟩ = some (.int .i64 file) → FisAt base base w' A1 p.fs.length p.fs → IntsAt base base w' A2 p.is.length p.is →
    p.fs.length ≤ 10000 → p.is.length ≤ 10000 → lsN p.fs ≤ 10000 → Ok file p → base ≤ w'.heap.size →
    Calls Tryd.prog K (#[.agg (pcC p.nw A1 p.fs.length c1 A2 p.is.length c2)] ++ caps) w' fun e w'' => ∃ B1 d1 B2 d2, e = .returned (.tuple #[.agg (pcC p.nw B1 (add file p).1.fs.length d1 B2 (add file p).1.is.length d2), .bool (add file p).2]) ∧ (add file p).1.nw = p.nw ∧
      FisAt base base w'' B1 (add file p).1.fs.length (add file p).1.fs ∧ IntsAt base base w'' B2 (add file p).1.is.length (add file p).1.is ∧ Below w'.heap.size w' w'') ∧
  ∀ file p, p.fs.length ≤ 10000 → p.is.length ≤ 10000 → lsN p.fs ≤ 10000 → (add file p).1.fs.length ≤ 100000 ∧ (add file p).1.is.length ≤ 100000 ∧ lsN (add file p).1.fs ≤ 100000
set_option maxRecDepth 100000 in
set_option maxHeartbeats 2000000 in
theorem item_any (base k : Nat) (st : PkS) (K : FuncId) (caps : Array Value) (add : Int → PcP → PcP × Bool) (Ok : Int → PcP → Prop) (w : World) (h : Pkr base w k st) (ha : AddOk base k w K caps add Ok)
    (hol : st.out.length ≤ 10000) (hok : ∀ p : PcP, p.fs = [] → p.is = [] → Ok (-1) p) (hok2 : st.out ≠ [] → Ok st.file (lastP st))
    (hbd : st.out ≠ [] → (lastP st).fs.length ≤ 10000 ∧ (lastP st).is.length ≤ 10000 ∧ lsN (lastP st).fs ≤ 10000) (hlf : -1000000 ≤ st.left ∧ st.left ≤ 1000000) (hB : base ≤ w.heap.size) :
    Calls Tryd.prog 13 #[.pointer (some ⟨k, 0, none⟩), .func (.func K) #[] caps] w fun e w' => e = .returned (.tuple #[]) ∧ Pkr base w' k (itemS add st) ∧ Kt TP base w w' := by
  have H := hide h
  have HA := hide ha
  have HOK := hide hok
  have HO2 := hide hok2
  have HBD := hide hbd
  have HLF := hide hlf
  have HB := hide hB
  clear h ha hB hok hok2 hbd hlf
  by_cases hne : st.out = []
  · obtain ⟨A, c, q0, q1, q2, q3, hO, hfr⟩ := H.out.quad
    have hz : st.out.length = 0 := by rw [hne]; rfl
    rw [hz] at q0
    go_enter Tryd.func13, Tryd.ntmps13
    go_wp2_with fail
    obtain ⟨w5, hw5⟩ : ∃ w5, w5 = w := ⟨_, rfl⟩
    obtain ⟨st5, hst5⟩ : ∃ s, s = st := ⟨_, rfl⟩
    have P5 : Hid (Pkr base w5 k st5) := hide (by rw [hw5, hst5]; exact H.out)
    have KT5 : Hid (Kt TP base w w5) := hide (by rw [hw5]; exact Kt.refl _ _ _)
    have L5 : Hid (st5.out.length ≤ 10000) := hide (by rw [hst5]; omega)
    have HI : Hid (itemS add st = (tryS (begS st5) (add (begS st5).file (lastP (begS st5))).1).2) := hide (by rw [hst5]; unfold itemS; rw [if_pos hne])
    rw [← hw5]
    clear hw5 hst5 hz hne hfr hO q0 q1 q2 q3
    refine (begin_any base k st5 w5 P5.out (Nat.le_trans L5.out (by decide)) (Nat.le_trans HB.out KT5.out.size)).mono ?_
    rintro e w6 ⟨rfl, h6, k6⟩
    have KT6 := hide (KT5.out.trans k6)
    obtain ⟨s6, hs6⟩ : ∃ s, s = begS st5 := ⟨_, rfl⟩
    have hq : s6.out.length = st5.out.length + 1 := by rw [hs6]; simp [begS]
    have hfl6 : s6.file = -1 := by rw [hs6]; rfl
    have hlp : lastP s6 = ⟨decide (st5.left ≤ 2), [], []⟩ := by rw [hs6]; simp [lastP, begS, List.getLastD_eq_getLast?]
    rw [← hs6] at h6 HI
    obtain ⟨q, hqq⟩ : ∃ q, q = st5.out.length := ⟨_, rfl⟩
    rw [← hqq] at hq
    have hqb : q ≤ 10000 := by rw [hqq]; exact L5.out
    have P6 := hide h6
    obtain ⟨A6, c6, r0, -, -, r3, rO, -⟩ := h6.quad
    obtain ⟨g, p6, B1, d1, B2, d2, hA6, hbg, ⟨csg, hgb⟩, hp6, hF6, hI6, o0, o1, o2⟩ := rO.at (j := q) (by omega)
    have hp6e : p6 = lastP s6 := by
      have h1 : s6.out[q]? = some (lastP s6) := by
        unfold lastP
        rw [List.getLastD_eq_getLast?, List.getLast?_eq_getElem?, hq, Nat.add_sub_cancel, hp6]
        rfl
      rw [hp6] at h1
      exact Option.some.inj h1
    subst hA6
    rw [hq] at r0
    rw [hfl6] at r3
    have hfs : p6.fs = [] := by rw [hp6e, hlp]
    have his : p6.is = [] := by rw [hp6e, hlp]
    have HGL := hide hgb.lt
    have HF6 := hide hF6
    have HI6 := hide hI6
    have HP6 := hide hp6e
    have HQ := hide hq
    have HS6 := hide hs6
    have HFS := hide hfs
    have HIS := hide his
    have R3 := hide r3
    have hOk := hide (HOK.out p6 hfs his)
    have hen := HA.out.1
    have CC6 := hide (fun (w' : World) (hb : Below w6.heap.size w6 w') => show w'.cell? ⟨k, 0, none⟩ = some (.slice (some ⟨g, 0, none⟩) (q + 1) c6) ∧ w'.cell? ⟨g, q * 3, none⟩ = some (.bool p6.nw) ∧ w'.cell? ⟨g, q * 3 + 1, none⟩ = some (.slice B1 p6.fs.length d1) ∧ w'.cell? ⟨g, q * 3 + 2, none⟩ = some (.slice B2 p6.is.length d2) from
      ⟨(hb.cell (p := ⟨k, 0, none⟩) P6.out.lt).trans r0, (hb.cell (p := ⟨g, q * 3, none⟩) hgb.lt).trans o0, (hb.cell (p := ⟨g, q * 3 + 1, none⟩) hgb.lt).trans o1, (hb.cell (p := ⟨g, q * 3 + 2, none⟩) hgb.lt).trans o2⟩)
    have hw64 : IntKind.i64.wrap (q : Int) = (q : Int) := by rw [IntKind.wrap_i64]; omega
    have hqs : (q : Int) < (q : Int) + 1 := by omega
    have HFL6 := hide hfl6
    clear h6 k6 hs6 hqq hfl6 hlp hq r0 r3 rO hgb hp6 hF6 hI6 o0 o1 o2 hp6e hfs his
    go_wp2_with fail
    have s0 := CC6.out _ (Below.refl _ _).drew
    refine wp_region_noPanic ?_
    refine wp_region_held_drew (S := (fun w' => w'.cell? ⟨k, 0, none⟩ = some (.slice (some ⟨g, 0, none⟩) (q + 1) c6) ∧ w'.cell? ⟨g, q * 3, none⟩ = some (.bool p6.nw) ∧ w'.cell? ⟨g, q * 3 + 1, none⟩ = some (.slice B1 p6.fs.length d1) ∧ w'.cell? ⟨g, q * 3 + 2, none⟩ = some (.slice B2 p6.is.length d2))) (by kernel_rfl) ?_ (fun hHeld => ?_)
    · ((try dsimp only) <;> (first | trivial | assumption | go_keep))
    clear s0
    have BD := hide ((Below.refl w6.heap.size w6).drew)
    refine wpAnyH_take (i := 0) (v := ?_) (by simp only [List.getElem?_toArray, List.getElem?_cons_succ, List.getElem?_cons_zero]; rfl) (by kernel_rfl) (by kernel_rfl) (by kernel_rfl) (fun _ _ _ h => h) (Or.inl ⟨by rfl, ?_⟩) (by assumption) ?_
    rotate_left 1
    · (intro w hSw; (try dsimp only at hSw); go_simp; try with_reducible rfl)
    try simp only [Act.put, List.setIfInBounds_toArray, List.set_cons_zero, List.set_cons_succ]
    refine wpAnyH_take (i := 1) (v := ?_) (by simp only [List.getElem?_toArray, List.getElem?_cons_succ, List.getElem?_cons_zero]; rfl) (by kernel_rfl) (by kernel_rfl) (by kernel_rfl) (fun _ _ _ h => h) (Or.inl ⟨by rfl, ?_⟩) (by assumption) ?_
    rotate_left 1
    · (intro w hSw; (try dsimp only at hSw); go_simp; try with_reducible rfl)
    try simp only [Act.put, List.setIfInBounds_toArray, List.set_cons_zero, List.set_cons_succ]
    refine wpAnyH_take (i := 2) (v := ?_) (by simp only [List.getElem?_toArray, List.getElem?_cons_succ, List.getElem?_cons_zero]; rfl) (by kernel_rfl) (by kernel_rfl) (by kernel_rfl) (fun _ _ _ h => h) (Or.inl ⟨by rfl, ?_⟩) (by assumption) ?_
    rotate_left 1
    · (intro w hSw; (try dsimp only at hSw); go_simp; try with_reducible rfl)
    try simp only [Act.put, List.setIfInBounds_toArray, List.set_cons_zero, List.set_cons_succ]
    refine wpAnyH_take (i := 3) (v := ?_) (by simp only [List.getElem?_toArray, List.getElem?_cons_succ, List.getElem?_cons_zero]; rfl) (by kernel_rfl) (by kernel_rfl) (by kernel_rfl) (fun _ _ _ h => h) (Or.inl ⟨by rfl, ?_⟩) (by assumption) ?_
    rotate_left 1
    · (intro w hSw; (try dsimp only at hSw); go_simp; try with_reducible rfl)
    try simp only [Act.put, List.setIfInBounds_toArray, List.set_cons_zero, List.set_cons_succ]
    refine wpAnyH_take (i := 4) (v := ?_) (by simp only [List.getElem?_toArray, List.getElem?_cons_succ, List.getElem?_cons_zero]; rfl) (by kernel_rfl) (by kernel_rfl) (by kernel_rfl) (fun _ _ _ h => h) (Or.inl ⟨by rfl, ?_⟩) (by assumption) ?_
    rotate_left 1
    · (intro w hSw; (try dsimp only at hSw); go_simp; try with_reducible rfl)
    try simp only [Act.put, List.setIfInBounds_toArray, List.set_cons_zero, List.set_cons_succ]
    refine wpAnyH_take (i := 5) (v := ?_) (by simp only [List.getElem?_toArray, List.getElem?_cons_succ, List.getElem?_cons_zero]; rfl) (by kernel_rfl) (by kernel_rfl) (by kernel_rfl) (fun _ _ _ h => h) (Or.inl ⟨by rfl, ?_⟩) (by assumption) ?_
    rotate_left 1
    · (intro w hSw; (try dsimp only at hSw); go_simp; try with_reducible rfl)
    try simp only [Act.put, List.setIfInBounds_toArray, List.set_cons_zero, List.set_cons_succ]
    refine wpAnyH_take (i := 6) (v := ?_) (by simp only [List.getElem?_toArray, List.getElem?_cons_succ, List.getElem?_cons_zero]; rfl) (by kernel_rfl) (by kernel_rfl) (by kernel_rfl) (fun _ _ _ h => h) (Or.inl ⟨by rfl, ?_⟩) (by assumption) ?_
    rotate_left 1
    · (intro w hSw; (try dsimp only at hSw); go_simp; try with_reducible rfl)
    try simp only [Act.put, List.setIfInBounds_toArray, List.set_cons_zero, List.set_cons_succ]
    refine wpAnyH_take (i := 7) (v := ?_) (by simp only [List.getElem?_toArray, List.getElem?_cons_succ, List.getElem?_cons_zero]; rfl) (by kernel_rfl) (by kernel_rfl) (by kernel_rfl) (fun _ _ _ h => h) (Or.inl ⟨by rfl, ?_⟩) (by assumption) ?_
    rotate_left 1
    · (intro w hSw; (try dsimp only at hSw); go_simp; try with_reducible rfl)
    try simp only [Act.put, List.setIfInBounds_toArray, List.set_cons_zero, List.set_cons_succ]
    refine wpAnyH_take (i := 8) (v := ?_) (by simp only [List.getElem?_toArray, List.getElem?_cons_succ, List.getElem?_cons_zero]; rfl) (by kernel_rfl) (by kernel_rfl) (by kernel_rfl) (fun _ _ _ h => h) (Or.inl ⟨by rfl, ?_⟩) (by assumption) ?_
    rotate_left 1
    · (intro w hSw; (try dsimp only at hSw); go_simp; try with_reducible rfl)
    try simp only [Act.put, List.setIfInBounds_toArray, List.set_cons_zero, List.set_cons_succ]
    refine wpAnyH_take (i := 9) (v := ?_) (by simp only [List.getElem?_toArray, List.getElem?_cons_succ, List.getElem?_cons_zero]; rfl) (by kernel_rfl) (by kernel_rfl) (by kernel_rfl) (fun _ _ _ h => h) (Or.inl ⟨by rfl, ?_⟩) (by assumption) ?_
    rotate_left 1
    · (intro w hSw; (try dsimp only at hSw); go_simp; try with_reducible rfl)
    try simp only [Act.put, List.setIfInBounds_toArray, List.set_cons_zero, List.set_cons_succ]
    refine wpAnyH_take (i := 10) (v := ?_) (by simp only [List.getElem?_toArray, List.getElem?_cons_succ, List.getElem?_cons_zero]; rfl) (by kernel_rfl) (by kernel_rfl) (by kernel_rfl) (fun _ _ _ h => h) (Or.inl ⟨by rfl, ?_⟩) (by assumption) ?_
    rotate_left 1
    · (intro w hSw; (try dsimp only at hSw); go_simp; try with_reducible rfl)
    try simp only [Act.put, List.setIfInBounds_toArray, List.set_cons_zero, List.set_cons_succ]
    refine wpAnyH_take (i := 11) (v := ?_) (by simp only [List.getElem?_toArray, List.getElem?_cons_succ, List.getElem?_cons_zero]; rfl) (by kernel_rfl) (by kernel_rfl) (by kernel_rfl) (fun _ _ _ h => h) (Or.inl ⟨by rfl, ?_⟩) (by assumption) ?_
    rotate_left 1
    · (intro w hSw; (try dsimp only at hSw); go_simp; try with_reducible rfl)
    try simp only [Act.put, List.setIfInBounds_toArray, List.set_cons_zero, List.set_cons_succ]
    refine wpAnyH_take (i := 12) (v := ?_) (by simp only [List.getElem?_toArray, List.getElem?_cons_succ, List.getElem?_cons_zero]; rfl) (by kernel_rfl) (by kernel_rfl) (by kernel_rfl) (fun _ _ _ h => h) (Or.inl ⟨by rfl, ?_⟩) (by assumption) ?_
    rotate_left 1
    · (intro w hSw; (try dsimp only at hSw); go_simp; try with_reducible rfl)
    try simp only [Act.put, List.setIfInBounds_toArray, List.set_cons_zero, List.set_cons_succ]
    refine wpAnyH_ready (rs := [13, 17]) (by kernel_rfl) (by simp) ?_
    refine AllReadyH.cons (by simp only [List.getElem?_toArray, List.getElem?_cons_succ, List.getElem?_cons_zero]; rfl) (fun K hK => ?_) ?_
    rotate_left 1
    refine AllReadyH.cons (by simp only [List.getElem?_toArray, List.getElem?_cons_succ, List.getElem?_cons_zero]; rfl) (fun K hK => ?_) ?_
    rotate_left 1
    exact AllReadyH.nil
    focus
      go_simp
      refine (HA.out.2.1 _ (-1) p6 B1 d1 B2 d2 ((KT6.out.trans (Kt.of_below BD.out))) ((BD.out.cell (p := ⟨k, 3, none⟩) P6.out.lt).trans R3.out) (HF6.out.below BD.out) (RwAt.below HI6.out BD.out) (by rw [HFS.out]; simp) (by rw [HIS.out]; simp) (by rw [HFS.out]; simp [lsN, sumN]) hOk.out (Nat.le_trans HB.out (Nat.le_trans KT6.out.size BD.out.size))).mono ?_; rintro e w7 ⟨E1, f1, E2, f2, rfl, hnw, hF7, hI7, hb⟩; have B7 := hide (BD.out.trans (hb.mono BD.out.size)); have HF7 := hide hF7; have HI7 := hide hI7; have HNW := hide hnw; clear hb hF7 hI7 hnw; unfold pcC; go_wp2_with fail
      refine hK.out _ _ ?_ (fun hHeld2 => ?_)
      · ((try dsimp only) <;> (exact CC6.out _ B7.out))
      clear hHeld
      have hHeld := hHeld2
      clear hHeld2 hK K
      try simp only [Act.put, List.setIfInBounds_toArray, List.set_cons_zero, List.set_cons_succ]
      refine wpAnyH_take (i := 14) (v := ?_) (by simp only [List.getElem?_toArray, List.getElem?_cons_succ, List.getElem?_cons_zero]; rfl) (by kernel_rfl) (by kernel_rfl) (by kernel_rfl) (fun _ _ _ h => h) (Or.inl ⟨by rfl, ?_⟩) (by assumption) ?_
      rotate_left 1
      · (intro w hSw; (try dsimp only at hSw); go_simp; try with_reducible rfl)
      try simp only [Act.put, List.setIfInBounds_toArray, List.set_cons_zero, List.set_cons_succ]
      refine wpAnyH_take (i := 15) (v := ?_) (by simp only [List.getElem?_toArray, List.getElem?_cons_succ, List.getElem?_cons_zero]; rfl) (by kernel_rfl) (by kernel_rfl) (by kernel_rfl) (fun _ _ _ h => h) (Or.inl ⟨by rfl, ?_⟩) (by assumption) ?_
      rotate_left 1
      · (intro w hSw; (try dsimp only at hSw); go_simp; try with_reducible rfl)
      try simp only [Act.put, List.setIfInBounds_toArray, List.set_cons_zero, List.set_cons_succ]
      refine wpAnyH_take (i := 16) (v := ?_) (by simp only [List.getElem?_toArray, List.getElem?_cons_succ, List.getElem?_cons_zero]; rfl) (by kernel_rfl) (by kernel_rfl) (by kernel_rfl) (fun _ _ _ h => h) (Or.inl ⟨by rfl, ?_⟩) (by assumption) ?_
      rotate_left 1
      · (intro w hSw; (try dsimp only at hSw); go_simp; try with_reducible rfl)
      try simp only [Act.put, List.setIfInBounds_toArray, List.set_cons_zero, List.set_cons_succ]
      have B8 := hide (B7.out.alloc B7.out.size (.cells #[.bool false, .slice none 0 0, .slice none 0 0] 37))
      refine wpAnyH_ready (rs := [17]) (by kernel_rfl) (by simp) ?_
      refine AllReadyH.cons (by simp only [List.getElem?_toArray, List.getElem?_cons_succ, List.getElem?_cons_zero]; rfl) (fun K hK => ?_) ?_
      rotate_left 1
      · exact AllReadyH.nil
      go_simp
      refine hK.out _ _ ?_ (fun hHeld2 => ?_)
      · ((try dsimp only) <;> (exact CC6.out _ B8.out))
      clear hHeld
      have hHeld := hHeld2
      clear hHeld2 hK K
      try simp only [Act.put, List.setIfInBounds_toArray, List.set_cons_zero, List.set_cons_succ]
      have hne7 : k ≠ w7.heap.size ∧ g ≠ w7.heap.size := ⟨by have := P6.out.lt; have := B7.out.size; omega, by have := HGL.out; have := B7.out.size; omega⟩
      refine wpAnyH_ready (rs := [18]) (by kernel_rfl) (by simp) ?_
      refine AllReadyH.cons (by simp only [List.getElem?_toArray, List.getElem?_cons_succ, List.getElem?_cons_zero]; rfl) (fun K hK => ?_) ?_
      rotate_left 1
      · exact AllReadyH.nil
      go_simp
      refine hK.out _ _ ?_ (fun hHeld2 => ?_)
      · ((try dsimp only) <;> (exact CC6.out _ (B7.out.alloc B7.out.size _)))
      clear hHeld
      have hHeld := hHeld2
      clear hHeld2 hK K
      try simp only [Act.put, List.setIfInBounds_toArray, List.set_cons_zero, List.set_cons_succ]
      obtain ⟨WW, hWW⟩ : ∃ W, W = w7.alloc (.cells #[.bool p6.nw, .slice E1 (add (-1) p6).1.fs.length f1, .slice E2 (add (-1) p6).1.is.length f2] 37) := ⟨_, rfl⟩
      have BW : Hid (Below w6.heap.size w6 WW) := hide (by rw [hWW]; exact B7.out.alloc B7.out.size _)
      have KW : Hid (Blk WW w7.heap.size 37 #[.bool p6.nw, .slice E1 (add (-1) p6).1.fs.length f1, .slice E2 (add (-1) p6).1.is.length f2]) := hide (by rw [hWW]; exact Blk.new _ _ _)
      have FW : Hid (FisAt base base WW E1 (add (-1) p6).1.fs.length (add (-1) p6).1.fs) := hide (by rw [hWW]; exact HF7.out.below ((Below.refl _ _).alloc (Nat.le_refl _) _))
      have IW : Hid (IntsAt base base WW E2 (add (-1) p6).1.is.length (add (-1) p6).1.is) := hide (by rw [hWW]; exact RwAt.below HI7.out ((Below.refl _ _).alloc (Nat.le_refl _) _))
      rw [← hWW] at hHeld ⊢
      clear hWW
      generalize w7.heap.size = bx at *
      refine wpAnyH_take (i := 19) (v := ?_) (by simp only [List.getElem?_toArray, List.getElem?_cons_succ, List.getElem?_cons_zero]; rfl) (by kernel_rfl) (by kernel_rfl) (by kernel_rfl) (fun _ _ _ h => h) (Or.inl ⟨by rfl, ?_⟩) (by assumption) ?_
      rotate_left 1
      · (intro w hSw; (try dsimp only at hSw); go_simp; try with_reducible rfl)
      try simp only [Act.put, List.setIfInBounds_toArray, List.set_cons_zero, List.set_cons_succ]
      refine wpAnyH_done (by kernel_rfl) ?_ _
      refine NoPanic.normal ?_
      have hbd := HA.out.2.2 (-1) p6 (by rw [HFS.out]; simp) (by rw [HIS.out]; simp) (by rw [HFS.out]; simp [lsN, sumN])
      have TR := try_any base k s6 (add (-1) p6).1 E1 E2 f1 f2 WW (P6.out.below BW.out) FW.out IW.out hbd.1 hbd.2.1 hbd.2.2 (by intro e; have := HQ.out; rw [e] at this; simp at this) (by rw [HQ.out]; omega) (Nat.le_trans HB.out (Nat.le_trans KT6.out.size BW.out.size))
      unfold pcC at TR
      rw [HNW.out] at TR
      have TR := hide TR
      have z0 := KW.out.cell 0
      have z1 := KW.out.cell 1
      have z2 := KW.out.cell 2
      simp only [List.getElem?_toArray, List.getElem?_cons_succ, List.getElem?_cons_zero] at z0 z1 z2
      clear hbd hHeld
      go_wp2_with fail
      refine TR.out.mono ?_
      rintro e w9 ⟨rfl, hP9, hK9, -⟩
      have P9 := hide hP9
      have K9 := hide hK9
      clear hP9 hK9 TR z0 z1 z2
      go_wp2_with fail
      go_end0
      have hI := HI.out
      rw [HFL6.out, ← HP6.out] at hI
      exact ⟨rfl, by rw [hI]; exact P9.out, KT6.out.trans ((Kt.of_below BW.out).trans K9.out)⟩
    focus
      go_simp
      refine hK.out _ _ ?_ (fun hHeld2 => ?_)
      · ((try dsimp only) <;> (exact CC6.out _ ((Below.refl _ _).alloc (Nat.le_refl _) _).drew))
      clear hHeld
      have hHeld := hHeld2
      clear hHeld2 hK K
      try simp only [Act.put, List.setIfInBounds_toArray, List.set_cons_zero, List.set_cons_succ]
      have BA := hide (((Below.refl w6.heap.size w6).alloc (Nat.le_refl _) (.cells #[.bool false, .slice none 0 0, .slice none 0 0] 37)).drew)
      have KB0 := hide (show Blk ((w6.alloc (.cells #[.bool false, .slice none 0 0, .slice none 0 0] 37)).drew) w6.heap.size 37 #[.bool false, .slice none 0 0, .slice none 0 0] from Blk.new w6 _ _)
      generalize (w6.alloc (.cells #[.bool false, .slice none 0 0, .slice none 0 0] 37)).drew = wa at *
      refine wpAnyH_ready (rs := [13]) (by kernel_rfl) (by simp) ?_
      refine AllReadyH.cons (by simp only [List.getElem?_toArray, List.getElem?_cons_succ, List.getElem?_cons_zero]; rfl) (fun K hK => ?_) ?_
      rotate_left 1
      · exact AllReadyH.nil
      go_simp
      refine (HA.out.2.1 _ (-1) p6 B1 d1 B2 d2 ((KT6.out.trans (Kt.of_below BA.out))) ((BA.out.cell (p := ⟨k, 3, none⟩) P6.out.lt).trans R3.out) (HF6.out.below BA.out) (RwAt.below HI6.out BA.out) (by rw [HFS.out]; simp) (by rw [HIS.out]; simp) (by rw [HFS.out]; simp [lsN, sumN]) hOk.out (Nat.le_trans HB.out (Nat.le_trans KT6.out.size BA.out.size))).mono ?_; rintro e w7 ⟨E1, f1, E2, f2, rfl, hnw, hF7, hI7, hb⟩; have B7 := hide (BA.out.trans (hb.mono BA.out.size)); have KB7 := hide (KB0.out.below hb); have HF7 := hide hF7; have HI7 := hide hI7; have HNW := hide hnw; clear hb hF7 hI7 hnw; unfold pcC; go_wp2_with fail
      refine hK.out _ _ ?_ (fun hHeld2 => ?_)
      · ((try dsimp only) <;> (exact CC6.out _ B7.out))
      clear hHeld
      have hHeld := hHeld2
      clear hHeld2 hK K
      try simp only [Act.put, List.setIfInBounds_toArray, List.set_cons_zero, List.set_cons_succ]
      refine wpAnyH_take (i := 14) (v := ?_) (by simp only [List.getElem?_toArray, List.getElem?_cons_succ, List.getElem?_cons_zero]; rfl) (by kernel_rfl) (by kernel_rfl) (by kernel_rfl) (fun _ _ _ h => h) (Or.inl ⟨by rfl, ?_⟩) (by assumption) ?_
      rotate_left 1
      · (intro w hSw; (try dsimp only at hSw); go_simp; try with_reducible rfl)
      try simp only [Act.put, List.setIfInBounds_toArray, List.set_cons_zero, List.set_cons_succ]
      refine wpAnyH_take (i := 15) (v := ?_) (by simp only [List.getElem?_toArray, List.getElem?_cons_succ, List.getElem?_cons_zero]; rfl) (by kernel_rfl) (by kernel_rfl) (by kernel_rfl) (fun _ _ _ h => h) (Or.inl ⟨by rfl, ?_⟩) (by assumption) ?_
      rotate_left 1
      · (intro w hSw; (try dsimp only at hSw); go_simp; try with_reducible rfl)
      try simp only [Act.put, List.setIfInBounds_toArray, List.set_cons_zero, List.set_cons_succ]
      refine wpAnyH_take (i := 16) (v := ?_) (by simp only [List.getElem?_toArray, List.getElem?_cons_succ, List.getElem?_cons_zero]; rfl) (by kernel_rfl) (by kernel_rfl) (by kernel_rfl) (fun _ _ _ h => h) (Or.inl ⟨by rfl, ?_⟩) (by assumption) ?_
      rotate_left 1
      · (intro w hSw; (try dsimp only at hSw); go_simp; try with_reducible rfl)
      try simp only [Act.put, List.setIfInBounds_toArray, List.set_cons_zero, List.set_cons_succ]
      have e0 := KB7.out.cell 0
      have e1 := KB7.out.cell 1
      have e2 := KB7.out.cell 2
      have ef0 := KB7.out.frozen 0
      have ef1 := KB7.out.frozen 1
      have ef2 := KB7.out.frozen 2
      simp only [List.getElem?_toArray, List.getElem?_cons_succ, List.getElem?_cons_zero] at e0 e1 e2
      refine wpAnyH_ready (rs := [18]) (by kernel_rfl) (by simp) ?_
      refine AllReadyH.cons (by simp only [List.getElem?_toArray, List.getElem?_cons_succ, List.getElem?_cons_zero]; rfl) (fun K hK => ?_) ?_
      rotate_left 1
      · exact AllReadyH.nil
      go_simp
      refine hK.out _ _ ?_ (fun hHeld2 => ?_)
      · ((try dsimp only) <;> (exact CC6.out _ (((B7.out.setCell (p := ⟨w6.heap.size, 0, none⟩) (Nat.le_refl _) _).setCell (p := ⟨w6.heap.size, 1, none⟩) (Nat.le_refl _) _).setCell (p := ⟨w6.heap.size, 2, none⟩) (Nat.le_refl _) _)))
      clear hHeld
      have hHeld := hHeld2
      clear hHeld2 hK K
      try simp only [Act.put, List.setIfInBounds_toArray, List.set_cons_zero, List.set_cons_succ]
      clear e0 e1 e2 ef0 ef1 ef2
      obtain ⟨WW, hWW⟩ : ∃ W, W = ((w7.setCell ⟨w6.heap.size, 0, none⟩ (.bool p6.nw)).setCell ⟨w6.heap.size, 1, none⟩ (.slice E1 (add (-1) p6).1.fs.length f1)).setCell ⟨w6.heap.size, 2, none⟩ (.slice E2 (add (-1) p6).1.is.length f2) := ⟨_, rfl⟩
      have BW : Hid (Below w6.heap.size w6 WW) := hide (by rw [hWW]; exact ((B7.out.setCell (p := ⟨w6.heap.size, 0, none⟩) (Nat.le_refl _) _).setCell (p := ⟨w6.heap.size, 1, none⟩) (Nat.le_refl _) _).setCell (p := ⟨w6.heap.size, 2, none⟩) (Nat.le_refl _) _)
      have KW : Hid (Blk WW w6.heap.size 37 #[.bool p6.nw, .slice E1 (add (-1) p6).1.fs.length f1, .slice E2 (add (-1) p6).1.is.length f2]) := hide (by rw [hWW]; exact ((KB7.out.set 0 _).set 1 _).set 2 _)
      have KTW : Hid (Kt TP base w7 WW) := hide (by
        have hT : base ≤ w6.heap.size ∧ ∀ t cs, Blk w7 w6.heap.size t cs → t ∈ TP := ⟨Nat.le_trans HB.out KT6.out.size, fun t cs hB => by have := (Blk.type hB KB7.out).1; subst this; simp⟩
        rw [hWW]
        exact (((Kt.refl TP base w7).set (p := ⟨w6.heap.size, 0, none⟩) (.inl hT) _).set (p := ⟨w6.heap.size, 1, none⟩) (.inl hT) _).set (p := ⟨w6.heap.size, 2, none⟩) (.inl hT) _)
      have FW : Hid (FisAt base base WW E1 (add (-1) p6).1.fs.length (add (-1) p6).1.fs) := hide (HF7.out.kt KTW.out (by decide) (by decide))
      have IW : Hid (IntsAt base base WW E2 (add (-1) p6).1.is.length (add (-1) p6).1.is) := hide (RwAt.kt HI7.out KTW.out (by decide))
      rw [← hWW] at hHeld ⊢
      clear hWW
      refine wpAnyH_take (i := 19) (v := ?_) (by simp only [List.getElem?_toArray, List.getElem?_cons_succ, List.getElem?_cons_zero]; rfl) (by kernel_rfl) (by kernel_rfl) (by kernel_rfl) (fun _ _ _ h => h) (Or.inl ⟨by rfl, ?_⟩) (by assumption) ?_
      rotate_left 1
      · (intro w hSw; (try dsimp only at hSw); go_simp; try with_reducible rfl)
      try simp only [Act.put, List.setIfInBounds_toArray, List.set_cons_zero, List.set_cons_succ]
      refine wpAnyH_done (by kernel_rfl) ?_ _
      refine NoPanic.normal ?_
      have hbd := HA.out.2.2 (-1) p6 (by rw [HFS.out]; simp) (by rw [HIS.out]; simp) (by rw [HFS.out]; simp [lsN, sumN])
      have TR := try_any base k s6 (add (-1) p6).1 E1 E2 f1 f2 WW (P6.out.below BW.out) FW.out IW.out hbd.1 hbd.2.1 hbd.2.2 (by intro e; have := HQ.out; rw [e] at this; simp at this) (by rw [HQ.out]; omega) (Nat.le_trans HB.out (Nat.le_trans KT6.out.size BW.out.size))
      unfold pcC at TR
      rw [HNW.out] at TR
      have TR := hide TR
      have z0 := KW.out.cell 0
      have z1 := KW.out.cell 1
      have z2 := KW.out.cell 2
      simp only [List.getElem?_toArray, List.getElem?_cons_succ, List.getElem?_cons_zero] at z0 z1 z2
      clear hbd hHeld
      go_wp2_with fail
      refine TR.out.mono ?_
      rintro e w9 ⟨rfl, hP9, hK9, -⟩
      have P9 := hide hP9
      have K9 := hide hK9
      clear hP9 hK9 TR z0 z1 z2
      go_wp2_with fail
      go_end0
      have hI := HI.out
      rw [HFL6.out, ← HP6.out] at hI
      exact ⟨rfl, by rw [hI]; exact P9.out, KT6.out.trans ((Kt.of_below BW.out).trans K9.out)⟩
  · obtain ⟨q, hq⟩ : ∃ q, st.out.length = q + 1 := ⟨st.out.length - 1, by have := List.length_pos_iff.2 hne; omega⟩
    obtain ⟨A, c, q0, q1, q2, q3, hO, hfr⟩ := H.out.quad
    obtain ⟨g, p, A1, c1, A2, c2, hA, hbg, ⟨csg, hgb⟩, hp, hF, hI, o0, o1, o2⟩ := hO.at (j := q) (by omega)
    have hpe : p = lastP st := by
      have h1 : st.out[q]? = some (lastP st) := by
        unfold lastP
        rw [List.getLastD_eq_getLast?, List.getLast?_eq_getElem?, hq, Nat.add_sub_cancel, hp]
        rfl
      rw [hp] at h1
      exact Option.some.inj h1
    subst hA
    rw [hq] at q0
    have HF := hide hF
    have HII := hide hI
    have HP := hide hpe
    have HQ := hide hq
    have HNE := hide hne
    have hqb : q ≤ 10000 := by omega
    have hw64 : IntKind.i64.wrap (q : Int) = (q : Int) := by rw [IntKind.wrap_i64]; omega
    have hqs : (q : Int) < (q : Int) + 1 := by omega
    have HGL := hide hgb.lt
    have hOk := hide (HO2.out hne)
    have hBd := hide (HBD.out hne)
    rw [← hpe] at hOk hBd
    have Q3 := hide q3
    have Q1 := hide q1
    have CC := hide (fun (w' : World) (hb : Below w.heap.size w w') => show w'.cell? ⟨k, 0, none⟩ = some (.slice (some ⟨g, 0, none⟩) (q + 1) c) ∧ w'.cell? ⟨g, q * 3, none⟩ = some (.bool p.nw) ∧ w'.cell? ⟨g, q * 3 + 1, none⟩ = some (.slice A1 p.fs.length c1) ∧ w'.cell? ⟨g, q * 3 + 2, none⟩ = some (.slice A2 p.is.length c2) from
      ⟨(hb.cell (p := ⟨k, 0, none⟩) H.out.lt).trans q0, (hb.cell (p := ⟨g, q * 3, none⟩) hgb.lt).trans o0, (hb.cell (p := ⟨g, q * 3 + 1, none⟩) hgb.lt).trans o1, (hb.cell (p := ⟨g, q * 3 + 2, none⟩) hgb.lt).trans o2⟩)
    have hen := HA.out.1
    clear hne hq hpe hp hF hI o0 o1 o2 hgb hO hfr q1 q2 q3
    go_enter Tryd.func13, Tryd.ntmps13
    go_upto_region 1 with fail
    have s0 := CC.out _ (Below.refl _ _).drew
    clear q0
    refine wp_region_noPanic ?_
    refine wp_region_held_drew (S := (fun w' => w'.cell? ⟨k, 0, none⟩ = some (.slice (some ⟨g, 0, none⟩) (q + 1) c) ∧ w'.cell? ⟨g, q * 3, none⟩ = some (.bool p.nw) ∧ w'.cell? ⟨g, q * 3 + 1, none⟩ = some (.slice A1 p.fs.length c1) ∧ w'.cell? ⟨g, q * 3 + 2, none⟩ = some (.slice A2 p.is.length c2))) (by kernel_rfl) ?_ (fun hHeld => ?_)
    · ((try dsimp only) <;> (first | trivial | assumption | go_keep))
    clear s0
    refine wpAnyH_take (i := 0) (v := ?_) (by simp only [List.getElem?_toArray, List.getElem?_cons_succ, List.getElem?_cons_zero]; rfl) (by kernel_rfl) (by kernel_rfl) (by kernel_rfl) (fun _ _ _ h => h) (Or.inl ⟨by rfl, ?_⟩) (by assumption) ?_
    rotate_left 1
    · (intro w hSw; (try dsimp only at hSw); go_simp; try with_reducible rfl)
    try simp only [Act.put, List.setIfInBounds_toArray, List.set_cons_zero, List.set_cons_succ]
    refine wpAnyH_take (i := 1) (v := ?_) (by simp only [List.getElem?_toArray, List.getElem?_cons_succ, List.getElem?_cons_zero]; rfl) (by kernel_rfl) (by kernel_rfl) (by kernel_rfl) (fun _ _ _ h => h) (Or.inl ⟨by rfl, ?_⟩) (by assumption) ?_
    rotate_left 1
    · (intro w hSw; (try dsimp only at hSw); go_simp; try with_reducible rfl)
    try simp only [Act.put, List.setIfInBounds_toArray, List.set_cons_zero, List.set_cons_succ]
    refine wpAnyH_take (i := 2) (v := ?_) (by simp only [List.getElem?_toArray, List.getElem?_cons_succ, List.getElem?_cons_zero]; rfl) (by kernel_rfl) (by kernel_rfl) (by kernel_rfl) (fun _ _ _ h => h) (Or.inl ⟨by rfl, ?_⟩) (by assumption) ?_
    rotate_left 1
    · (intro w hSw; (try dsimp only at hSw); go_simp; try with_reducible rfl)
    try simp only [Act.put, List.setIfInBounds_toArray, List.set_cons_zero, List.set_cons_succ]
    refine wpAnyH_take (i := 3) (v := ?_) (by simp only [List.getElem?_toArray, List.getElem?_cons_succ, List.getElem?_cons_zero]; rfl) (by kernel_rfl) (by kernel_rfl) (by kernel_rfl) (fun _ _ _ h => h) (Or.inl ⟨by rfl, ?_⟩) (by assumption) ?_
    rotate_left 1
    · (intro w hSw; (try dsimp only at hSw); go_simp; try with_reducible rfl)
    try simp only [Act.put, List.setIfInBounds_toArray, List.set_cons_zero, List.set_cons_succ]
    refine wpAnyH_take (i := 4) (v := ?_) (by simp only [List.getElem?_toArray, List.getElem?_cons_succ, List.getElem?_cons_zero]; rfl) (by kernel_rfl) (by kernel_rfl) (by kernel_rfl) (fun _ _ _ h => h) (Or.inl ⟨by rfl, ?_⟩) (by assumption) ?_
    rotate_left 1
    · (intro w hSw; (try dsimp only at hSw); go_simp; try with_reducible rfl)
    try simp only [Act.put, List.setIfInBounds_toArray, List.set_cons_zero, List.set_cons_succ]
    refine wpAnyH_take (i := 5) (v := ?_) (by simp only [List.getElem?_toArray, List.getElem?_cons_succ, List.getElem?_cons_zero]; rfl) (by kernel_rfl) (by kernel_rfl) (by kernel_rfl) (fun _ _ _ h => h) (Or.inl ⟨by rfl, ?_⟩) (by assumption) ?_
    rotate_left 1
    · (intro w hSw; (try dsimp only at hSw); go_simp; try with_reducible rfl)
    try simp only [Act.put, List.setIfInBounds_toArray, List.set_cons_zero, List.set_cons_succ]
    refine wpAnyH_take (i := 6) (v := ?_) (by simp only [List.getElem?_toArray, List.getElem?_cons_succ, List.getElem?_cons_zero]; rfl) (by kernel_rfl) (by kernel_rfl) (by kernel_rfl) (fun _ _ _ h => h) (Or.inl ⟨by rfl, ?_⟩) (by assumption) ?_
    rotate_left 1
    · (intro w hSw; (try dsimp only at hSw); go_simp; try with_reducible rfl)
    try simp only [Act.put, List.setIfInBounds_toArray, List.set_cons_zero, List.set_cons_succ]
    refine wpAnyH_take (i := 7) (v := ?_) (by simp only [List.getElem?_toArray, List.getElem?_cons_succ, List.getElem?_cons_zero]; rfl) (by kernel_rfl) (by kernel_rfl) (by kernel_rfl) (fun _ _ _ h => h) (Or.inl ⟨by rfl, ?_⟩) (by assumption) ?_
    rotate_left 1
    · (intro w hSw; (try dsimp only at hSw); go_simp; try with_reducible rfl)
    try simp only [Act.put, List.setIfInBounds_toArray, List.set_cons_zero, List.set_cons_succ]
    refine wpAnyH_take (i := 8) (v := ?_) (by simp only [List.getElem?_toArray, List.getElem?_cons_succ, List.getElem?_cons_zero]; rfl) (by kernel_rfl) (by kernel_rfl) (by kernel_rfl) (fun _ _ _ h => h) (Or.inl ⟨by rfl, ?_⟩) (by assumption) ?_
    rotate_left 1
    · (intro w hSw; (try dsimp only at hSw); go_simp; try with_reducible rfl)
    try simp only [Act.put, List.setIfInBounds_toArray, List.set_cons_zero, List.set_cons_succ]
    refine wpAnyH_take (i := 9) (v := ?_) (by simp only [List.getElem?_toArray, List.getElem?_cons_succ, List.getElem?_cons_zero]; rfl) (by kernel_rfl) (by kernel_rfl) (by kernel_rfl) (fun _ _ _ h => h) (Or.inl ⟨by rfl, ?_⟩) (by assumption) ?_
    rotate_left 1
    · (intro w hSw; (try dsimp only at hSw); go_simp; try with_reducible rfl)
    try simp only [Act.put, List.setIfInBounds_toArray, List.set_cons_zero, List.set_cons_succ]
    refine wpAnyH_take (i := 10) (v := ?_) (by simp only [List.getElem?_toArray, List.getElem?_cons_succ, List.getElem?_cons_zero]; rfl) (by kernel_rfl) (by kernel_rfl) (by kernel_rfl) (fun _ _ _ h => h) (Or.inl ⟨by rfl, ?_⟩) (by assumption) ?_
    rotate_left 1
    · (intro w hSw; (try dsimp only at hSw); go_simp; try with_reducible rfl)
    try simp only [Act.put, List.setIfInBounds_toArray, List.set_cons_zero, List.set_cons_succ]
    refine wpAnyH_take (i := 11) (v := ?_) (by simp only [List.getElem?_toArray, List.getElem?_cons_succ, List.getElem?_cons_zero]; rfl) (by kernel_rfl) (by kernel_rfl) (by kernel_rfl) (fun _ _ _ h => h) (Or.inl ⟨by rfl, ?_⟩) (by assumption) ?_
    rotate_left 1
    · (intro w hSw; (try dsimp only at hSw); go_simp; try with_reducible rfl)
    try simp only [Act.put, List.setIfInBounds_toArray, List.set_cons_zero, List.set_cons_succ]
    refine wpAnyH_ready (rs := [12]) (by kernel_rfl) (by simp) ?_
    refine AllReadyH.cons (by simp only [List.getElem?_toArray, List.getElem?_cons_succ, List.getElem?_cons_zero]; rfl) (fun K hK => ?_) ?_
    rotate_left 1
    · exact AllReadyH.nil
    go_simp
    refine hK.out _ _ ?_ (fun hHeld2 => ?_)
    · ((try dsimp only) <;> (exact CC.out _ ((Below.refl _ _).drew.alloc (Nat.le_refl _) _)))
    clear hHeld
    have hHeld := hHeld2
    clear hHeld2 hK K
    try simp only [Act.put, List.setIfInBounds_toArray, List.set_cons_zero, List.set_cons_succ]
    refine wpAnyH_ready (rs := [13]) (by kernel_rfl) (by simp) ?_
    refine AllReadyH.cons (by simp only [List.getElem?_toArray, List.getElem?_cons_succ, List.getElem?_cons_zero]; rfl) (fun K hK => ?_) ?_
    rotate_left 1
    · exact AllReadyH.nil
    go_simp
    refine hK.out _ _ ?_ (fun hHeld2 => ?_)
    · ((try dsimp only) <;> (exact CC.out _ ((Below.refl _ _).drew.alloc (Nat.le_refl _) _)))
    clear hHeld
    have hHeld := hHeld2
    clear hHeld2 hK K
    try simp only [Act.put, List.setIfInBounds_toArray, List.set_cons_zero, List.set_cons_succ]
    refine wpAnyH_done (by kernel_rfl) ?_ _
    refine NoPanic.normal ?_
    have KB1 := hide (show Blk (w.alloc (.cells #[.bool p.nw, .slice A1 p.fs.length c1, .slice A2 p.is.length c2] 37)).drew w.heap.size 37 #[.bool p.nw, .slice A1 p.fs.length c1, .slice A2 p.is.length c2] from Blk.new w _ _)
    have B1 := hide (((Below.refl w.heap.size w).alloc (Nat.le_refl _) (.cells #[.bool p.nw, .slice A1 p.fs.length c1, .slice A2 p.is.length c2] 37)).drew)
    generalize (w.alloc (.cells #[.bool p.nw, .slice A1 p.fs.length c1, .slice A2 p.is.length c2] 37)).drew = w1 at *
    clear hHeld
    have x0 := KB1.out.cell 0
    have x1 := KB1.out.cell 1
    have x2 := KB1.out.cell 2
    simp only [List.getElem?_toArray, List.getElem?_cons_succ, List.getElem?_cons_zero] at x0 x1 x2
    go_wp2_with fail
    refine (HA.out.2.1 w1 st.file p A1 c1 A2 c2 (Kt.of_below B1.out) ((B1.out.cell (p := ⟨k, 3, none⟩) H.out.lt).trans Q3.out) (HF.out.below B1.out) (RwAt.below HII.out B1.out) hBd.out.1 hBd.out.2.1 hBd.out.2.2 hOk.out (Nat.le_trans HB.out B1.out.size)).mono ?_
    rintro e w2 ⟨D1, d1, D2, d2, rfl, hnw, hF2, hI2, hb⟩
    have B2 := hide (B1.out.trans (hb.mono B1.out.size))
    have KB2 := hide (KB1.out.below hb)
    obtain ⟨ok, hok⟩ : ∃ o, o = (add st.file p).2 := ⟨_, rfl⟩
    obtain ⟨P, hP⟩ : ∃ P, P = (add st.file p).1 := ⟨_, rfl⟩
    have hbd2 := HA.out.2.2 st.file p hBd.out.1 hBd.out.2.1 hBd.out.2.2
    rw [← hP] at hbd2 hF2 hI2 hnw
    rw [← hP, ← hok]
    have HOKV := hide hok
    have HPV := hide hP
    have HF2 := hide hF2
    have HI2 := hide hI2
    have HNW := hide hnw
    have BD2 := hide hbd2
    clear hb x0 x1 x2 hok hP hF2 hI2 hnw hbd2
    unfold pcC
    have KB3 := hide (KB2.out.alloc (.cells #[.bool p.nw, .slice D1 P.fs.length d1, .slice D2 P.is.length d2] 37))
    have KC3 := hide (Blk.new w2 37 #[.bool p.nw, .slice D1 P.fs.length d1, .slice D2 P.is.length d2])
    have B3 := hide (B2.out.alloc B2.out.size (.cells #[.bool p.nw, .slice D1 P.fs.length d1, .slice D2 P.is.length d2] 37))
    have b23 := (Below.refl w2.heap.size w2).alloc (Nat.le_refl _) (.cells #[.bool p.nw, .slice D1 P.fs.length d1, .slice D2 P.is.length d2] 37)
    have HF3 := hide (HF2.out.below b23)
    have HI3 := hide (RwAt.below HI2.out b23)
    clear b23
    go_upto_region 3 with fail
    generalize w2.alloc (.cells #[.bool p.nw, .slice D1 P.fs.length d1, .slice D2 P.is.length d2] 37) = w3 at *
    generalize w2.heap.size = bx at *
    obtain ⟨left, hleft⟩ : ∃ x, x = st.left := ⟨_, rfl⟩
    obtain ⟨M, hM⟩ : ∃ m, m = 2 + p.is.length + lsN p.fs := ⟨_, rfl⟩
    have HLEFT := hide hleft
    have HM := hide hM
    have HWL : Hid (IntKind.i64.wrap (left - (M : Int)) = left - (M : Int)) := hide (by
      have h1 := HLF.out
      have h2 := hBd.out
      rw [← hleft] at h1
      rw [IntKind.wrap_i64]
      omega)
    clear hleft hM
    cases ok with
    | false =>
      go_upto_region 4 with fail
      obtain ⟨w4, hw4⟩ : ∃ w4, w4 = w3 := ⟨_, rfl⟩
      have P4 : Hid (Pkr base w4 k st) := hide (by rw [hw4]; exact H.out.below B3.out)
      have B4 : Hid (Below w.heap.size w w4) := hide (by rw [hw4]; exact B3.out)
      have KB4 : Hid (Blk w4 w.heap.size 37 #[.bool p.nw, .slice A1 p.fs.length c1, .slice A2 p.is.length c2]) := hide (by rw [hw4]; exact KB3.out)
      have KT4 : Hid (Kt TP base w w4) := hide (Kt.of_below B4.out)
      have HFAIL : Hid (¬ (false = true ∧ (tryS st P).1 = true)) := hide (fun h => by cases h.1)
      rw [← hw4]
      clear hw4
      have CC4 := hide (fun (w' : World) (hb : Below w4.heap.size w4 w') => show w'.cell? ⟨k, 1, none⟩ = some (.int .i64 left) ∧ w'.cell? ⟨w.heap.size, 0, none⟩ = some (.bool p.nw) ∧ w'.cell? ⟨w.heap.size, 1, none⟩ = some (.slice A1 p.fs.length c1) ∧ w'.cell? ⟨w.heap.size, 2, none⟩ = some (.slice A2 p.is.length c2) from
        ⟨by obtain ⟨_, _, _, h, _⟩ := (P4.out.below hb).quad; rw [HLEFT.out]; exact h, (KB4.out.below hb).cell 0, (KB4.out.below hb).cell 1, (KB4.out.below hb).cell 2⟩)
      have s0 := CC4.out _ (Below.refl _ _).drew
      have hwl := HWL.out
      refine wp_region_noPanic ?_
      refine wp_region_last (n := 9) (S := (fun w' => w'.cell? ⟨k, 1, none⟩ = some (.int .i64 left) ∧ w'.cell? ⟨w.heap.size, 0, none⟩ = some (.bool p.nw) ∧ w'.cell? ⟨w.heap.size, 1, none⟩ = some (.slice A1 p.fs.length c1) ∧ w'.cell? ⟨w.heap.size, 2, none⟩ = some (.slice A2 p.is.length c2))) (by kernel_rfl) (by rfl) (by kernel_rfl) ?_ (fun hHeld => ?_)
      · ((try dsimp only) <;> (first | trivial | assumption | go_keep))
      clear s0
      have BD4 := hide ((Below.refl w4.heap.size w4).drew)
      refine wpAnyH_take (i := 0) (v := ?_) (by simp only [List.getElem?_toArray, List.getElem?_cons_succ, List.getElem?_cons_zero]; rfl) (by kernel_rfl) (by kernel_rfl) (by kernel_rfl) (fun _ _ _ h => h) (Or.inl ⟨by rfl, ?_⟩) (by assumption) ?_
      rotate_left 1
      · (intro w hSw; (try dsimp only at hSw); go_simp; try with_reducible rfl)
      try simp only [Act.put, List.setIfInBounds_toArray, List.set_cons_zero, List.set_cons_succ]
      refine wpAnyH_take (i := 1) (v := ?_) (by simp only [List.getElem?_toArray, List.getElem?_cons_succ, List.getElem?_cons_zero]; rfl) (by kernel_rfl) (by kernel_rfl) (by kernel_rfl) (fun _ _ _ h => h) (Or.inl ⟨by rfl, ?_⟩) (by assumption) ?_
      rotate_left 1
      · (intro w hSw; (try dsimp only at hSw); go_simp; try with_reducible rfl)
      try simp only [Act.put, List.setIfInBounds_toArray, List.set_cons_zero, List.set_cons_succ]
      refine wpAnyH_take (i := 2) (v := ?_) (by simp only [List.getElem?_toArray, List.getElem?_cons_succ, List.getElem?_cons_zero]; rfl) (by kernel_rfl) (by kernel_rfl) (by kernel_rfl) (fun _ _ _ h => h) (Or.inl ⟨by rfl, ?_⟩) (by assumption) ?_
      rotate_left 1
      · (intro w hSw; (try dsimp only at hSw); go_simp; try with_reducible rfl)
      try simp only [Act.put, List.setIfInBounds_toArray, List.set_cons_zero, List.set_cons_succ]
      refine wpAnyH_take (i := 3) (v := ?_) (by simp only [List.getElem?_toArray, List.getElem?_cons_succ, List.getElem?_cons_zero]; rfl) (by kernel_rfl) (by kernel_rfl) (by kernel_rfl) (fun _ _ _ h => h) (Or.inl ⟨by rfl, ?_⟩) (by assumption) ?_
      rotate_left 1
      · (intro w hSw; (try dsimp only at hSw); go_simp; try with_reducible rfl)
      try simp only [Act.put, List.setIfInBounds_toArray, List.set_cons_zero, List.set_cons_succ]
      refine wpAnyH_take (i := 4) (v := ?_) (by simp only [List.getElem?_toArray, List.getElem?_cons_succ, List.getElem?_cons_zero]; rfl) (by kernel_rfl) (by kernel_rfl) (by kernel_rfl) (fun _ _ _ h => h) (Or.inl ⟨by rfl, ?_⟩) (by assumption) ?_
      rotate_left 1
      · (intro w hSw; (try dsimp only at hSw); go_simp; try with_reducible rfl)
      try simp only [Act.put, List.setIfInBounds_toArray, List.set_cons_zero, List.set_cons_succ]
      refine wpAnyH_ready (rs := [5]) (by kernel_rfl) (by simp) ?_
      refine AllReadyH.cons (by simp only [List.getElem?_toArray, List.getElem?_cons_succ, List.getElem?_cons_zero]; rfl) (fun K hK => ?_) ?_
      rotate_left 1
      · exact AllReadyH.nil
      go_simp
      refine (pblocks_any p.nw A1 A2 _ c1 _ c2 base base p.fs _ ((HF.out.below B4.out).below BD4.out) (Nat.le_trans hBd.out.1 (by decide)) (Nat.le_trans hBd.out.2.1 (by decide)) (Nat.le_trans hBd.out.2.2 (by decide))).mono ?_; rintro e w10 ⟨rfl, hb⟩; rw [← HM.out]; have B10 := hide (BD4.out.trans (hb.mono BD4.out.size)); clear hb; go_wp2_with fail
      refine hK.out _ _ ?_ (fun hHeld2 => ?_)
      · ((try dsimp only) <;> (exact CC4.out _ B10.out))
      clear hHeld
      have hHeld := hHeld2
      clear hHeld2 hK K
      try simp only [Act.put, List.setIfInBounds_toArray, List.set_cons_zero, List.set_cons_succ]
      refine wpAnyH_take (i := 6) (v := ?_) (by simp only [List.getElem?_toArray, List.getElem?_cons_succ, List.getElem?_cons_zero]; rfl) (by kernel_rfl) (by kernel_rfl) (by kernel_rfl) (fun _ _ _ h => h) (Or.inl ⟨by rfl, ?_⟩) (by assumption) ?_
      rotate_left 1
      · (intro w hSw; (try dsimp only at hSw); go_simp; try with_reducible rfl)
      try simp only [Act.put, List.setIfInBounds_toArray, List.set_cons_zero, List.set_cons_succ]
      refine wpAnyH_take (i := 7) (v := ?_) (by simp only [List.getElem?_toArray, List.getElem?_cons_succ, List.getElem?_cons_zero]; rfl) (by kernel_rfl) (by kernel_rfl) (by kernel_rfl) (fun _ _ _ h => h) (Or.inl ⟨by rfl, ?_⟩) (by assumption) ?_
      rotate_left 1
      · (intro w hSw; (try dsimp only at hSw); go_simp; try with_reducible rfl)
      try simp only [Act.put, List.setIfInBounds_toArray, List.set_cons_zero, List.set_cons_succ]
      refine wpAnyH_take (i := 8) (v := ?_) (by simp only [List.getElem?_toArray, List.getElem?_cons_succ, List.getElem?_cons_zero]; rfl) (by kernel_rfl) (by kernel_rfl) (by kernel_rfl) (fun _ _ _ h => h) (Or.inl ⟨by rfl, ?_⟩) (by assumption) ?_
      rotate_left 1
      · (intro w hSw; (try dsimp only at hSw); go_simp; try with_reducible rfl)
      try simp only [Act.put, List.setIfInBounds_toArray, List.set_cons_zero, List.set_cons_succ]
      have P10 := hide (P4.out.below B10.out)
      have k1 := P10.out.quad.choose_spec.choose_spec.2.1
      have kf := P10.out.quad.choose_spec.choose_spec.2.2.2.2.2 1
      refine wpAnyH_done (by kernel_rfl) ?_ _
      refine LastQ.step (by simp only [List.getElem?_toArray, List.getElem?_cons_succ, List.getElem?_cons_zero]; rfl) (by rfl) ?_
      go_simp
      refine NoPanic.normal ?_
      obtain ⟨st5, hst5⟩ : ∃ s : PkS, s = { st with left := left - (M : Int) } := ⟨_, rfl⟩
      have P5 : Hid (Pkr base (w10.setCell ⟨k, 1, none⟩ (.int .i64 (left - (M : Int)))) k st5) := hide (by rw [hst5]; exact P10.out.left_ _)
      have KT5 : Hid (Kt TP base w (w10.setCell ⟨k, 1, none⟩ (.int .i64 (left - (M : Int))))) := hide ((KT4.out.trans (Kt.of_below B10.out)).trans (P10.out.setKt 1 _))
      have L5 : Hid (st5.out.length ≤ 10000) := hide (by rw [hst5]; exact hol)
      have HI : Hid (itemS add st = (tryS (begS st5) (add (begS st5).file (lastP (begS st5))).1).2) := hide (by rw [hst5, HLEFT.out, HM.out]; unfold itemS; rw [if_neg HNE.out, if_neg (fun h => by have := HFAIL.out; rw [← HP.out, ← HPV.out, ← HOKV.out] at h; exact this (by first | (simp at h; done) | exact ⟨by trivial, h.2⟩)), ← HP.out]; rfl)
      generalize w10.setCell ⟨k, 1, none⟩ (.int .i64 (left - (M : Int))) = w5 at *
      clear k1 kf hst5 hwl hHeld
      go_wp2_with fail
      refine (begin_any base k st5 w5 P5.out (Nat.le_trans L5.out (by decide)) (Nat.le_trans HB.out KT5.out.size)).mono ?_
      rintro e w6 ⟨rfl, h6, k6⟩
      have KT6 := hide (KT5.out.trans k6)
      obtain ⟨s6, hs6⟩ : ∃ s, s = begS st5 := ⟨_, rfl⟩
      have hq : s6.out.length = st5.out.length + 1 := by rw [hs6]; simp [begS]
      have hfl6 : s6.file = -1 := by rw [hs6]; rfl
      have hlp : lastP s6 = ⟨decide (st5.left ≤ 2), [], []⟩ := by rw [hs6]; simp [lastP, begS, List.getLastD_eq_getLast?]
      rw [← hs6] at h6 HI
      obtain ⟨q, hqq⟩ : ∃ q, q = st5.out.length := ⟨_, rfl⟩
      rw [← hqq] at hq
      have hqb : q ≤ 10000 := by rw [hqq]; exact L5.out
      have P6 := hide h6
      obtain ⟨A6, c6, r0, -, -, r3, rO, -⟩ := h6.quad
      obtain ⟨g, p6, B1, d1, B2, d2, hA6, hbg, ⟨csg, hgb⟩, hp6, hF6, hI6, o0, o1, o2⟩ := rO.at (j := q) (by omega)
      have hp6e : p6 = lastP s6 := by
        have h1 : s6.out[q]? = some (lastP s6) := by
          unfold lastP
          rw [List.getLastD_eq_getLast?, List.getLast?_eq_getElem?, hq, Nat.add_sub_cancel, hp6]
          rfl
        rw [hp6] at h1
        exact Option.some.inj h1
      subst hA6
      rw [hq] at r0
      rw [hfl6] at r3
      have hfs : p6.fs = [] := by rw [hp6e, hlp]
      have his : p6.is = [] := by rw [hp6e, hlp]
      have HGL := hide hgb.lt
      have HF6 := hide hF6
      have HI6 := hide hI6
      have HP6 := hide hp6e
      have HQ := hide hq
      have HS6 := hide hs6
      have HFS := hide hfs
      have HIS := hide his
      have R3 := hide r3
      have hOk := hide (HOK.out p6 hfs his)
      have hen := HA.out.1
      have CC6 := hide (fun (w' : World) (hb : Below w6.heap.size w6 w') => show w'.cell? ⟨k, 0, none⟩ = some (.slice (some ⟨g, 0, none⟩) (q + 1) c6) ∧ w'.cell? ⟨g, q * 3, none⟩ = some (.bool p6.nw) ∧ w'.cell? ⟨g, q * 3 + 1, none⟩ = some (.slice B1 p6.fs.length d1) ∧ w'.cell? ⟨g, q * 3 + 2, none⟩ = some (.slice B2 p6.is.length d2) from
        ⟨(hb.cell (p := ⟨k, 0, none⟩) P6.out.lt).trans r0, (hb.cell (p := ⟨g, q * 3, none⟩) hgb.lt).trans o0, (hb.cell (p := ⟨g, q * 3 + 1, none⟩) hgb.lt).trans o1, (hb.cell (p := ⟨g, q * 3 + 2, none⟩) hgb.lt).trans o2⟩)
      have hw64 : IntKind.i64.wrap (q : Int) = (q : Int) := by rw [IntKind.wrap_i64]; omega
      have hqs : (q : Int) < (q : Int) + 1 := by omega
      have HFL6 := hide hfl6
      clear h6 k6 hs6 hqq hfl6 hlp hq r0 r3 rO hgb hp6 hF6 hI6 o0 o1 o2 hp6e hfs his
      go_wp2_with fail
      have s0 := CC6.out _ (Below.refl _ _).drew
      refine wp_region_noPanic ?_
      refine wp_region_held_drew (S := (fun w' => w'.cell? ⟨k, 0, none⟩ = some (.slice (some ⟨g, 0, none⟩) (q + 1) c6) ∧ w'.cell? ⟨g, q * 3, none⟩ = some (.bool p6.nw) ∧ w'.cell? ⟨g, q * 3 + 1, none⟩ = some (.slice B1 p6.fs.length d1) ∧ w'.cell? ⟨g, q * 3 + 2, none⟩ = some (.slice B2 p6.is.length d2))) (by kernel_rfl) ?_ (fun hHeld => ?_)
      · ((try dsimp only) <;> (first | trivial | assumption | go_keep))
      clear s0
      have BD := hide ((Below.refl w6.heap.size w6).drew)
      refine wpAnyH_take (i := 0) (v := ?_) (by simp only [List.getElem?_toArray, List.getElem?_cons_succ, List.getElem?_cons_zero]; rfl) (by kernel_rfl) (by kernel_rfl) (by kernel_rfl) (fun _ _ _ h => h) (Or.inl ⟨by rfl, ?_⟩) (by assumption) ?_
      rotate_left 1
      · (intro w hSw; (try dsimp only at hSw); go_simp; try with_reducible rfl)
      try simp only [Act.put, List.setIfInBounds_toArray, List.set_cons_zero, List.set_cons_succ]
      refine wpAnyH_take (i := 1) (v := ?_) (by simp only [List.getElem?_toArray, List.getElem?_cons_succ, List.getElem?_cons_zero]; rfl) (by kernel_rfl) (by kernel_rfl) (by kernel_rfl) (fun _ _ _ h => h) (Or.inl ⟨by rfl, ?_⟩) (by assumption) ?_
      rotate_left 1
      · (intro w hSw; (try dsimp only at hSw); go_simp; try with_reducible rfl)
      try simp only [Act.put, List.setIfInBounds_toArray, List.set_cons_zero, List.set_cons_succ]
      refine wpAnyH_take (i := 2) (v := ?_) (by simp only [List.getElem?_toArray, List.getElem?_cons_succ, List.getElem?_cons_zero]; rfl) (by kernel_rfl) (by kernel_rfl) (by kernel_rfl) (fun _ _ _ h => h) (Or.inl ⟨by rfl, ?_⟩) (by assumption) ?_
      rotate_left 1
      · (intro w hSw; (try dsimp only at hSw); go_simp; try with_reducible rfl)
      try simp only [Act.put, List.setIfInBounds_toArray, List.set_cons_zero, List.set_cons_succ]
      refine wpAnyH_take (i := 3) (v := ?_) (by simp only [List.getElem?_toArray, List.getElem?_cons_succ, List.getElem?_cons_zero]; rfl) (by kernel_rfl) (by kernel_rfl) (by kernel_rfl) (fun _ _ _ h => h) (Or.inl ⟨by rfl, ?_⟩) (by assumption) ?_
      rotate_left 1
      · (intro w hSw; (try dsimp only at hSw); go_simp; try with_reducible rfl)
      try simp only [Act.put, List.setIfInBounds_toArray, List.set_cons_zero, List.set_cons_succ]
      refine wpAnyH_take (i := 4) (v := ?_) (by simp only [List.getElem?_toArray, List.getElem?_cons_succ, List.getElem?_cons_zero]; rfl) (by kernel_rfl) (by kernel_rfl) (by kernel_rfl) (fun _ _ _ h => h) (Or.inl ⟨by rfl, ?_⟩) (by assumption) ?_
      rotate_left 1
      · (intro w hSw; (try dsimp only at hSw); go_simp; try with_reducible rfl)
      try simp only [Act.put, List.setIfInBounds_toArray, List.set_cons_zero, List.set_cons_succ]
      refine wpAnyH_take (i := 5) (v := ?_) (by simp only [List.getElem?_toArray, List.getElem?_cons_succ, List.getElem?_cons_zero]; rfl) (by kernel_rfl) (by kernel_rfl) (by kernel_rfl) (fun _ _ _ h => h) (Or.inl ⟨by rfl, ?_⟩) (by assumption) ?_
      rotate_left 1
      · (intro w hSw; (try dsimp only at hSw); go_simp; try with_reducible rfl)
      try simp only [Act.put, List.setIfInBounds_toArray, List.set_cons_zero, List.set_cons_succ]
      refine wpAnyH_take (i := 6) (v := ?_) (by simp only [List.getElem?_toArray, List.getElem?_cons_succ, List.getElem?_cons_zero]; rfl) (by kernel_rfl) (by kernel_rfl) (by kernel_rfl) (fun _ _ _ h => h) (Or.inl ⟨by rfl, ?_⟩) (by assumption) ?_
      rotate_left 1
      · (intro w hSw; (try dsimp only at hSw); go_simp; try with_reducible rfl)
      try simp only [Act.put, List.setIfInBounds_toArray, List.set_cons_zero, List.set_cons_succ]
      refine wpAnyH_take (i := 7) (v := ?_) (by simp only [List.getElem?_toArray, List.getElem?_cons_succ, List.getElem?_cons_zero]; rfl) (by kernel_rfl) (by kernel_rfl) (by kernel_rfl) (fun _ _ _ h => h) (Or.inl ⟨by rfl, ?_⟩) (by assumption) ?_
      rotate_left 1
      · (intro w hSw; (try dsimp only at hSw); go_simp; try with_reducible rfl)
      try simp only [Act.put, List.setIfInBounds_toArray, List.set_cons_zero, List.set_cons_succ]
      refine wpAnyH_take (i := 8) (v := ?_) (by simp only [List.getElem?_toArray, List.getElem?_cons_succ, List.getElem?_cons_zero]; rfl) (by kernel_rfl) (by kernel_rfl) (by kernel_rfl) (fun _ _ _ h => h) (Or.inl ⟨by rfl, ?_⟩) (by assumption) ?_
      rotate_left 1
      · (intro w hSw; (try dsimp only at hSw); go_simp; try with_reducible rfl)
      try simp only [Act.put, List.setIfInBounds_toArray, List.set_cons_zero, List.set_cons_succ]
      refine wpAnyH_take (i := 9) (v := ?_) (by simp only [List.getElem?_toArray, List.getElem?_cons_succ, List.getElem?_cons_zero]; rfl) (by kernel_rfl) (by kernel_rfl) (by kernel_rfl) (fun _ _ _ h => h) (Or.inl ⟨by rfl, ?_⟩) (by assumption) ?_
      rotate_left 1
      · (intro w hSw; (try dsimp only at hSw); go_simp; try with_reducible rfl)
      try simp only [Act.put, List.setIfInBounds_toArray, List.set_cons_zero, List.set_cons_succ]
      refine wpAnyH_take (i := 10) (v := ?_) (by simp only [List.getElem?_toArray, List.getElem?_cons_succ, List.getElem?_cons_zero]; rfl) (by kernel_rfl) (by kernel_rfl) (by kernel_rfl) (fun _ _ _ h => h) (Or.inl ⟨by rfl, ?_⟩) (by assumption) ?_
      rotate_left 1
      · (intro w hSw; (try dsimp only at hSw); go_simp; try with_reducible rfl)
      try simp only [Act.put, List.setIfInBounds_toArray, List.set_cons_zero, List.set_cons_succ]
      refine wpAnyH_take (i := 11) (v := ?_) (by simp only [List.getElem?_toArray, List.getElem?_cons_succ, List.getElem?_cons_zero]; rfl) (by kernel_rfl) (by kernel_rfl) (by kernel_rfl) (fun _ _ _ h => h) (Or.inl ⟨by rfl, ?_⟩) (by assumption) ?_
      rotate_left 1
      · (intro w hSw; (try dsimp only at hSw); go_simp; try with_reducible rfl)
      try simp only [Act.put, List.setIfInBounds_toArray, List.set_cons_zero, List.set_cons_succ]
      refine wpAnyH_take (i := 12) (v := ?_) (by simp only [List.getElem?_toArray, List.getElem?_cons_succ, List.getElem?_cons_zero]; rfl) (by kernel_rfl) (by kernel_rfl) (by kernel_rfl) (fun _ _ _ h => h) (Or.inl ⟨by rfl, ?_⟩) (by assumption) ?_
      rotate_left 1
      · (intro w hSw; (try dsimp only at hSw); go_simp; try with_reducible rfl)
      try simp only [Act.put, List.setIfInBounds_toArray, List.set_cons_zero, List.set_cons_succ]
      refine wpAnyH_ready (rs := [13, 17]) (by kernel_rfl) (by simp) ?_
      refine AllReadyH.cons (by simp only [List.getElem?_toArray, List.getElem?_cons_succ, List.getElem?_cons_zero]; rfl) (fun K hK => ?_) ?_
      rotate_left 1
      refine AllReadyH.cons (by simp only [List.getElem?_toArray, List.getElem?_cons_succ, List.getElem?_cons_zero]; rfl) (fun K hK => ?_) ?_
      rotate_left 1
      exact AllReadyH.nil
      focus
        go_simp
        refine (HA.out.2.1 _ (-1) p6 B1 d1 B2 d2 ((KT6.out.trans (Kt.of_below BD.out))) ((BD.out.cell (p := ⟨k, 3, none⟩) P6.out.lt).trans R3.out) (HF6.out.below BD.out) (RwAt.below HI6.out BD.out) (by rw [HFS.out]; simp) (by rw [HIS.out]; simp) (by rw [HFS.out]; simp [lsN, sumN]) hOk.out (Nat.le_trans HB.out (Nat.le_trans KT6.out.size BD.out.size))).mono ?_; rintro e w7 ⟨E1, f1, E2, f2, rfl, hnw, hF7, hI7, hb⟩; have B7 := hide (BD.out.trans (hb.mono BD.out.size)); have HF7 := hide hF7; have HI7 := hide hI7; have HNW := hide hnw; clear hb hF7 hI7 hnw; unfold pcC; go_wp2_with fail
        refine hK.out _ _ ?_ (fun hHeld2 => ?_)
        · ((try dsimp only) <;> (exact CC6.out _ B7.out))
        clear hHeld
        have hHeld := hHeld2
        clear hHeld2 hK K
        try simp only [Act.put, List.setIfInBounds_toArray, List.set_cons_zero, List.set_cons_succ]
        refine wpAnyH_take (i := 14) (v := ?_) (by simp only [List.getElem?_toArray, List.getElem?_cons_succ, List.getElem?_cons_zero]; rfl) (by kernel_rfl) (by kernel_rfl) (by kernel_rfl) (fun _ _ _ h => h) (Or.inl ⟨by rfl, ?_⟩) (by assumption) ?_
        rotate_left 1
        · (intro w hSw; (try dsimp only at hSw); go_simp; try with_reducible rfl)
        try simp only [Act.put, List.setIfInBounds_toArray, List.set_cons_zero, List.set_cons_succ]
        refine wpAnyH_take (i := 15) (v := ?_) (by simp only [List.getElem?_toArray, List.getElem?_cons_succ, List.getElem?_cons_zero]; rfl) (by kernel_rfl) (by kernel_rfl) (by kernel_rfl) (fun _ _ _ h => h) (Or.inl ⟨by rfl, ?_⟩) (by assumption) ?_
        rotate_left 1
        · (intro w hSw; (try dsimp only at hSw); go_simp; try with_reducible rfl)
        try simp only [Act.put, List.setIfInBounds_toArray, List.set_cons_zero, List.set_cons_succ]
        refine wpAnyH_take (i := 16) (v := ?_) (by simp only [List.getElem?_toArray, List.getElem?_cons_succ, List.getElem?_cons_zero]; rfl) (by kernel_rfl) (by kernel_rfl) (by kernel_rfl) (fun _ _ _ h => h) (Or.inl ⟨by rfl, ?_⟩) (by assumption) ?_
        rotate_left 1
        · (intro w hSw; (try dsimp only at hSw); go_simp; try with_reducible rfl)
        try simp only [Act.put, List.setIfInBounds_toArray, List.set_cons_zero, List.set_cons_succ]
        have B8 := hide (B7.out.alloc B7.out.size (.cells #[.bool false, .slice none 0 0, .slice none 0 0] 37))
        refine wpAnyH_ready (rs := [17]) (by kernel_rfl) (by simp) ?_
        refine AllReadyH.cons (by simp only [List.getElem?_toArray, List.getElem?_cons_succ, List.getElem?_cons_zero]; rfl) (fun K hK => ?_) ?_
        rotate_left 1
        · exact AllReadyH.nil
        go_simp
        refine hK.out _ _ ?_ (fun hHeld2 => ?_)
        · ((try dsimp only) <;> (exact CC6.out _ B8.out))
        clear hHeld
        have hHeld := hHeld2
        clear hHeld2 hK K
        try simp only [Act.put, List.setIfInBounds_toArray, List.set_cons_zero, List.set_cons_succ]
        have hne7 : k ≠ w7.heap.size ∧ g ≠ w7.heap.size := ⟨by have := P6.out.lt; have := B7.out.size; omega, by have := HGL.out; have := B7.out.size; omega⟩
        refine wpAnyH_ready (rs := [18]) (by kernel_rfl) (by simp) ?_
        refine AllReadyH.cons (by simp only [List.getElem?_toArray, List.getElem?_cons_succ, List.getElem?_cons_zero]; rfl) (fun K hK => ?_) ?_
        rotate_left 1
        · exact AllReadyH.nil
        go_simp
        refine hK.out _ _ ?_ (fun hHeld2 => ?_)
        · ((try dsimp only) <;> (exact CC6.out _ (B7.out.alloc B7.out.size _)))
        clear hHeld
        have hHeld := hHeld2
        clear hHeld2 hK K
        try simp only [Act.put, List.setIfInBounds_toArray, List.set_cons_zero, List.set_cons_succ]
        obtain ⟨WW, hWW⟩ : ∃ W, W = w7.alloc (.cells #[.bool p6.nw, .slice E1 (add (-1) p6).1.fs.length f1, .slice E2 (add (-1) p6).1.is.length f2] 37) := ⟨_, rfl⟩
        have BW : Hid (Below w6.heap.size w6 WW) := hide (by rw [hWW]; exact B7.out.alloc B7.out.size _)
        have KW : Hid (Blk WW w7.heap.size 37 #[.bool p6.nw, .slice E1 (add (-1) p6).1.fs.length f1, .slice E2 (add (-1) p6).1.is.length f2]) := hide (by rw [hWW]; exact Blk.new _ _ _)
        have FW : Hid (FisAt base base WW E1 (add (-1) p6).1.fs.length (add (-1) p6).1.fs) := hide (by rw [hWW]; exact HF7.out.below ((Below.refl _ _).alloc (Nat.le_refl _) _))
        have IW : Hid (IntsAt base base WW E2 (add (-1) p6).1.is.length (add (-1) p6).1.is) := hide (by rw [hWW]; exact RwAt.below HI7.out ((Below.refl _ _).alloc (Nat.le_refl _) _))
        rw [← hWW] at hHeld ⊢
        clear hWW
        generalize w7.heap.size = bx at *
        refine wpAnyH_take (i := 19) (v := ?_) (by simp only [List.getElem?_toArray, List.getElem?_cons_succ, List.getElem?_cons_zero]; rfl) (by kernel_rfl) (by kernel_rfl) (by kernel_rfl) (fun _ _ _ h => h) (Or.inl ⟨by rfl, ?_⟩) (by assumption) ?_
        rotate_left 1
        · (intro w hSw; (try dsimp only at hSw); go_simp; try with_reducible rfl)
        try simp only [Act.put, List.setIfInBounds_toArray, List.set_cons_zero, List.set_cons_succ]
        refine wpAnyH_done (by kernel_rfl) ?_ _
        refine NoPanic.normal ?_
        have hbd := HA.out.2.2 (-1) p6 (by rw [HFS.out]; simp) (by rw [HIS.out]; simp) (by rw [HFS.out]; simp [lsN, sumN])
        have TR := try_any base k s6 (add (-1) p6).1 E1 E2 f1 f2 WW (P6.out.below BW.out) FW.out IW.out hbd.1 hbd.2.1 hbd.2.2 (by intro e; have := HQ.out; rw [e] at this; simp at this) (by rw [HQ.out]; omega) (Nat.le_trans HB.out (Nat.le_trans KT6.out.size BW.out.size))
        unfold pcC at TR
        rw [HNW.out] at TR
        have TR := hide TR
        have z0 := KW.out.cell 0
        have z1 := KW.out.cell 1
        have z2 := KW.out.cell 2
        simp only [List.getElem?_toArray, List.getElem?_cons_succ, List.getElem?_cons_zero] at z0 z1 z2
        clear hbd hHeld
        go_wp2_with fail
        refine TR.out.mono ?_
        rintro e w9 ⟨rfl, hP9, hK9, -⟩
        have P9 := hide hP9
        have K9 := hide hK9
        clear hP9 hK9 TR z0 z1 z2
        go_wp2_with fail
        go_end0
        have hI := HI.out
        rw [HFL6.out, ← HP6.out] at hI
        exact ⟨rfl, by rw [hI]; exact P9.out, KT6.out.trans ((Kt.of_below BW.out).trans K9.out)⟩
      focus
        go_simp
        refine hK.out _ _ ?_ (fun hHeld2 => ?_)
        · ((try dsimp only) <;> (exact CC6.out _ ((Below.refl _ _).alloc (Nat.le_refl _) _).drew))
        clear hHeld
        have hHeld := hHeld2
        clear hHeld2 hK K
        try simp only [Act.put, List.setIfInBounds_toArray, List.set_cons_zero, List.set_cons_succ]
        have BA := hide (((Below.refl w6.heap.size w6).alloc (Nat.le_refl _) (.cells #[.bool false, .slice none 0 0, .slice none 0 0] 37)).drew)
        have KB0 := hide (show Blk ((w6.alloc (.cells #[.bool false, .slice none 0 0, .slice none 0 0] 37)).drew) w6.heap.size 37 #[.bool false, .slice none 0 0, .slice none 0 0] from Blk.new w6 _ _)
        generalize (w6.alloc (.cells #[.bool false, .slice none 0 0, .slice none 0 0] 37)).drew = wa at *
        refine wpAnyH_ready (rs := [13]) (by kernel_rfl) (by simp) ?_
        refine AllReadyH.cons (by simp only [List.getElem?_toArray, List.getElem?_cons_succ, List.getElem?_cons_zero]; rfl) (fun K hK => ?_) ?_
        rotate_left 1
        · exact AllReadyH.nil
        go_simp
        refine (HA.out.2.1 _ (-1) p6 B1 d1 B2 d2 ((KT6.out.trans (Kt.of_below BA.out))) ((BA.out.cell (p := ⟨k, 3, none⟩) P6.out.lt).trans R3.out) (HF6.out.below BA.out) (RwAt.below HI6.out BA.out) (by rw [HFS.out]; simp) (by rw [HIS.out]; simp) (by rw [HFS.out]; simp [lsN, sumN]) hOk.out (Nat.le_trans HB.out (Nat.le_trans KT6.out.size BA.out.size))).mono ?_; rintro e w7 ⟨E1, f1, E2, f2, rfl, hnw, hF7, hI7, hb⟩; have B7 := hide (BA.out.trans (hb.mono BA.out.size)); have KB7 := hide (KB0.out.below hb); have HF7 := hide hF7; have HI7 := hide hI7; have HNW := hide hnw; clear hb hF7 hI7 hnw; unfold pcC; go_wp2_with fail
        refine hK.out _ _ ?_ (fun hHeld2 => ?_)
        · ((try dsimp only) <;> (exact CC6.out _ B7.out))
        clear hHeld
        have hHeld := hHeld2
        clear hHeld2 hK K
        try simp only [Act.put, List.setIfInBounds_toArray, List.set_cons_zero, List.set_cons_succ]
        refine wpAnyH_take (i := 14) (v := ?_) (by simp only [List.getElem?_toArray, List.getElem?_cons_succ, List.getElem?_cons_zero]; rfl) (by kernel_rfl) (by kernel_rfl) (by kernel_rfl) (fun _ _ _ h => h) (Or.inl ⟨by rfl, ?_⟩) (by assumption) ?_
        rotate_left 1
        · (intro w hSw; (try dsimp only at hSw); go_simp; try with_reducible rfl)
        try simp only [Act.put, List.setIfInBounds_toArray, List.set_cons_zero, List.set_cons_succ]
        refine wpAnyH_take (i := 15) (v := ?_) (by simp only [List.getElem?_toArray, List.getElem?_cons_succ, List.getElem?_cons_zero]; rfl) (by kernel_rfl) (by kernel_rfl) (by kernel_rfl) (fun _ _ _ h => h) (Or.inl ⟨by rfl, ?_⟩) (by assumption) ?_
        rotate_left 1
        · (intro w hSw; (try dsimp only at hSw); go_simp; try with_reducible rfl)
        try simp only [Act.put, List.setIfInBounds_toArray, List.set_cons_zero, List.set_cons_succ]
        refine wpAnyH_take (i := 16) (v := ?_) (by simp only [List.getElem?_toArray, List.getElem?_cons_succ, List.getElem?_cons_zero]; rfl) (by kernel_rfl) (by kernel_rfl) (by kernel_rfl) (fun _ _ _ h => h) (Or.inl ⟨by rfl, ?_⟩) (by assumption) ?_
        rotate_left 1
        · (intro w hSw; (try dsimp only at hSw); go_simp; try with_reducible rfl)
        try simp only [Act.put, List.setIfInBounds_toArray, List.set_cons_zero, List.set_cons_succ]
        have e0 := KB7.out.cell 0
        have e1 := KB7.out.cell 1
        have e2 := KB7.out.cell 2
        have ef0 := KB7.out.frozen 0
        have ef1 := KB7.out.frozen 1
        have ef2 := KB7.out.frozen 2
        simp only [List.getElem?_toArray, List.getElem?_cons_succ, List.getElem?_cons_zero] at e0 e1 e2
        refine wpAnyH_ready (rs := [18]) (by kernel_rfl) (by simp) ?_
        refine AllReadyH.cons (by simp only [List.getElem?_toArray, List.getElem?_cons_succ, List.getElem?_cons_zero]; rfl) (fun K hK => ?_) ?_
        rotate_left 1
        · exact AllReadyH.nil
        go_simp
        refine hK.out _ _ ?_ (fun hHeld2 => ?_)
        · ((try dsimp only) <;> (exact CC6.out _ (((B7.out.setCell (p := ⟨w6.heap.size, 0, none⟩) (Nat.le_refl _) _).setCell (p := ⟨w6.heap.size, 1, none⟩) (Nat.le_refl _) _).setCell (p := ⟨w6.heap.size, 2, none⟩) (Nat.le_refl _) _)))
        clear hHeld
        have hHeld := hHeld2
        clear hHeld2 hK K
        try simp only [Act.put, List.setIfInBounds_toArray, List.set_cons_zero, List.set_cons_succ]
        clear e0 e1 e2 ef0 ef1 ef2
        obtain ⟨WW, hWW⟩ : ∃ W, W = ((w7.setCell ⟨w6.heap.size, 0, none⟩ (.bool p6.nw)).setCell ⟨w6.heap.size, 1, none⟩ (.slice E1 (add (-1) p6).1.fs.length f1)).setCell ⟨w6.heap.size, 2, none⟩ (.slice E2 (add (-1) p6).1.is.length f2) := ⟨_, rfl⟩
        have BW : Hid (Below w6.heap.size w6 WW) := hide (by rw [hWW]; exact ((B7.out.setCell (p := ⟨w6.heap.size, 0, none⟩) (Nat.le_refl _) _).setCell (p := ⟨w6.heap.size, 1, none⟩) (Nat.le_refl _) _).setCell (p := ⟨w6.heap.size, 2, none⟩) (Nat.le_refl _) _)
        have KW : Hid (Blk WW w6.heap.size 37 #[.bool p6.nw, .slice E1 (add (-1) p6).1.fs.length f1, .slice E2 (add (-1) p6).1.is.length f2]) := hide (by rw [hWW]; exact ((KB7.out.set 0 _).set 1 _).set 2 _)
        have KTW : Hid (Kt TP base w7 WW) := hide (by
          have hT : base ≤ w6.heap.size ∧ ∀ t cs, Blk w7 w6.heap.size t cs → t ∈ TP := ⟨Nat.le_trans HB.out KT6.out.size, fun t cs hB => by have := (Blk.type hB KB7.out).1; subst this; simp⟩
          rw [hWW]
          exact (((Kt.refl TP base w7).set (p := ⟨w6.heap.size, 0, none⟩) (.inl hT) _).set (p := ⟨w6.heap.size, 1, none⟩) (.inl hT) _).set (p := ⟨w6.heap.size, 2, none⟩) (.inl hT) _)
        have FW : Hid (FisAt base base WW E1 (add (-1) p6).1.fs.length (add (-1) p6).1.fs) := hide (HF7.out.kt KTW.out (by decide) (by decide))
        have IW : Hid (IntsAt base base WW E2 (add (-1) p6).1.is.length (add (-1) p6).1.is) := hide (RwAt.kt HI7.out KTW.out (by decide))
        rw [← hWW] at hHeld ⊢
        clear hWW
        refine wpAnyH_take (i := 19) (v := ?_) (by simp only [List.getElem?_toArray, List.getElem?_cons_succ, List.getElem?_cons_zero]; rfl) (by kernel_rfl) (by kernel_rfl) (by kernel_rfl) (fun _ _ _ h => h) (Or.inl ⟨by rfl, ?_⟩) (by assumption) ?_
        rotate_left 1
        · (intro w hSw; (try dsimp only at hSw); go_simp; try with_reducible rfl)
        try simp only [Act.put, List.setIfInBounds_toArray, List.set_cons_zero, List.set_cons_succ]
        refine wpAnyH_done (by kernel_rfl) ?_ _
        refine NoPanic.normal ?_
        have hbd := HA.out.2.2 (-1) p6 (by rw [HFS.out]; simp) (by rw [HIS.out]; simp) (by rw [HFS.out]; simp [lsN, sumN])
        have TR := try_any base k s6 (add (-1) p6).1 E1 E2 f1 f2 WW (P6.out.below BW.out) FW.out IW.out hbd.1 hbd.2.1 hbd.2.2 (by intro e; have := HQ.out; rw [e] at this; simp at this) (by rw [HQ.out]; omega) (Nat.le_trans HB.out (Nat.le_trans KT6.out.size BW.out.size))
        unfold pcC at TR
        rw [HNW.out] at TR
        have TR := hide TR
        have z0 := KW.out.cell 0
        have z1 := KW.out.cell 1
        have z2 := KW.out.cell 2
        simp only [List.getElem?_toArray, List.getElem?_cons_succ, List.getElem?_cons_zero] at z0 z1 z2
        clear hbd hHeld
        go_wp2_with fail
        refine TR.out.mono ?_
        rintro e w9 ⟨rfl, hP9, hK9, -⟩
        have P9 := hide hP9
        have K9 := hide hK9
        clear hP9 hK9 TR z0 z1 z2
        go_wp2_with fail
        go_end0
        have hI := HI.out
        rw [HFL6.out, ← HP6.out] at hI
        exact ⟨rfl, by rw [hI]; exact P9.out, KT6.out.trans ((Kt.of_below BW.out).trans K9.out)⟩
    | true =>
      have y0 := KC3.out.cell 0
      have y1 := KC3.out.cell 1
      have y2 := KC3.out.cell 2
      simp only [List.getElem?_toArray, List.getElem?_cons_succ, List.getElem?_cons_zero] at y0 y1 y2
      have TR := try_any base k st P D1 D2 d1 d2 w3 (H.out.below B3.out) HF3.out HI3.out BD2.out.1 BD2.out.2.1 BD2.out.2.2 HNE.out (Nat.le_trans hol (by decide)) (Nat.le_trans HB.out B3.out.size)
      unfold pcC at TR
      rw [HNW.out] at TR
      have TR := hide TR
      go_wp2_with fail
      refine TR.out.mono ?_
      rintro e w4 ⟨rfl, hP4, hK4, hB4⟩
      obtain ⟨tb, htb⟩ : ∃ b, b = (tryS st P).1 := ⟨_, rfl⟩
      rw [← htb] at hB4
      rw [← htb]
      have HTB := hide htb
      have P4 := hide hP4
      have KT4 := hide ((Kt.of_below B3.out).trans hK4)
      have HB4 := hide hB4
      clear htb hP4 hK4 hB4 TR y0 y1 y2
      cases tb with
      | true =>
        go_wp2_with fail
        refine bodyPost_ret (results_none rfl _ _ _) rfl ?_
        have e : itemS add st = (tryS st P).2 := by
          unfold itemS
          rw [if_neg HNE.out, if_pos (by rw [← HP.out, ← HPV.out, ← HOKV.out, ← HTB.out]; exact ⟨rfl, rfl⟩), ← HP.out, ← HPV.out]
        exact ⟨rfl, by rw [e]; exact P4.out, KT4.out⟩
      | false =>
        have hts : (tryS st P).2 = st := by
          have := HTB.out
          unfold tryS at this ⊢
          split
          · rename_i h; rw [if_pos h] at this; cases this
          · rfl
        rw [hts] at P4
        have B4 := hide (B3.out.trans ((HB4.out rfl).mono B3.out.size))
        have KB4 := hide (KB3.out.below (HB4.out rfl))
        have HFAIL : Hid (¬ (true = true ∧ (tryS st P).1 = true)) := hide (fun h => by have := h.2; rw [← HTB.out] at this; cases this)
        clear hts
        go_upto_region 4 with fail
        have CC4 := hide (fun (w' : World) (hb : Below w4.heap.size w4 w') => show w'.cell? ⟨k, 1, none⟩ = some (.int .i64 left) ∧ w'.cell? ⟨w.heap.size, 0, none⟩ = some (.bool p.nw) ∧ w'.cell? ⟨w.heap.size, 1, none⟩ = some (.slice A1 p.fs.length c1) ∧ w'.cell? ⟨w.heap.size, 2, none⟩ = some (.slice A2 p.is.length c2) from
          ⟨by obtain ⟨_, _, _, h, _⟩ := (P4.out.below hb).quad; rw [HLEFT.out]; exact h, (KB4.out.below hb).cell 0, (KB4.out.below hb).cell 1, (KB4.out.below hb).cell 2⟩)
        have s0 := CC4.out _ (Below.refl _ _).drew
        have hwl := HWL.out
        refine wp_region_noPanic ?_
        refine wp_region_last (n := 9) (S := (fun w' => w'.cell? ⟨k, 1, none⟩ = some (.int .i64 left) ∧ w'.cell? ⟨w.heap.size, 0, none⟩ = some (.bool p.nw) ∧ w'.cell? ⟨w.heap.size, 1, none⟩ = some (.slice A1 p.fs.length c1) ∧ w'.cell? ⟨w.heap.size, 2, none⟩ = some (.slice A2 p.is.length c2))) (by kernel_rfl) (by rfl) (by kernel_rfl) ?_ (fun hHeld => ?_)
        · ((try dsimp only) <;> (first | trivial | assumption | go_keep))
        clear s0
        have BD4 := hide ((Below.refl w4.heap.size w4).drew)
        refine wpAnyH_take (i := 0) (v := ?_) (by simp only [List.getElem?_toArray, List.getElem?_cons_succ, List.getElem?_cons_zero]; rfl) (by kernel_rfl) (by kernel_rfl) (by kernel_rfl) (fun _ _ _ h => h) (Or.inl ⟨by rfl, ?_⟩) (by assumption) ?_
        rotate_left 1
        · (intro w hSw; (try dsimp only at hSw); go_simp; try with_reducible rfl)
        try simp only [Act.put, List.setIfInBounds_toArray, List.set_cons_zero, List.set_cons_succ]
        refine wpAnyH_take (i := 1) (v := ?_) (by simp only [List.getElem?_toArray, List.getElem?_cons_succ, List.getElem?_cons_zero]; rfl) (by kernel_rfl) (by kernel_rfl) (by kernel_rfl) (fun _ _ _ h => h) (Or.inl ⟨by rfl, ?_⟩) (by assumption) ?_
        rotate_left 1
        · (intro w hSw; (try dsimp only at hSw); go_simp; try with_reducible rfl)
        try simp only [Act.put, List.setIfInBounds_toArray, List.set_cons_zero, List.set_cons_succ]
        refine wpAnyH_take (i := 2) (v := ?_) (by simp only [List.getElem?_toArray, List.getElem?_cons_succ, List.getElem?_cons_zero]; rfl) (by kernel_rfl) (by kernel_rfl) (by kernel_rfl) (fun _ _ _ h => h) (Or.inl ⟨by rfl, ?_⟩) (by assumption) ?_
        rotate_left 1
        · (intro w hSw; (try dsimp only at hSw); go_simp; try with_reducible rfl)
        try simp only [Act.put, List.setIfInBounds_toArray, List.set_cons_zero, List.set_cons_succ]
        refine wpAnyH_take (i := 3) (v := ?_) (by simp only [List.getElem?_toArray, List.getElem?_cons_succ, List.getElem?_cons_zero]; rfl) (by kernel_rfl) (by kernel_rfl) (by kernel_rfl) (fun _ _ _ h => h) (Or.inl ⟨by rfl, ?_⟩) (by assumption) ?_
        rotate_left 1
        · (intro w hSw; (try dsimp only at hSw); go_simp; try with_reducible rfl)
        try simp only [Act.put, List.setIfInBounds_toArray, List.set_cons_zero, List.set_cons_succ]
        refine wpAnyH_take (i := 4) (v := ?_) (by simp only [List.getElem?_toArray, List.getElem?_cons_succ, List.getElem?_cons_zero]; rfl) (by kernel_rfl) (by kernel_rfl) (by kernel_rfl) (fun _ _ _ h => h) (Or.inl ⟨by rfl, ?_⟩) (by assumption) ?_
        rotate_left 1
        · (intro w hSw; (try dsimp only at hSw); go_simp; try with_reducible rfl)
        try simp only [Act.put, List.setIfInBounds_toArray, List.set_cons_zero, List.set_cons_succ]
        refine wpAnyH_ready (rs := [5]) (by kernel_rfl) (by simp) ?_
        refine AllReadyH.cons (by simp only [List.getElem?_toArray, List.getElem?_cons_succ, List.getElem?_cons_zero]; rfl) (fun K hK => ?_) ?_
        rotate_left 1
        · exact AllReadyH.nil
        go_simp
        refine (pblocks_any p.nw A1 A2 _ c1 _ c2 base base p.fs _ ((HF.out.below B4.out).below BD4.out) (Nat.le_trans hBd.out.1 (by decide)) (Nat.le_trans hBd.out.2.1 (by decide)) (Nat.le_trans hBd.out.2.2 (by decide))).mono ?_; rintro e w10 ⟨rfl, hb⟩; rw [← HM.out]; have B10 := hide (BD4.out.trans (hb.mono BD4.out.size)); clear hb; go_wp2_with fail
        refine hK.out _ _ ?_ (fun hHeld2 => ?_)
        · ((try dsimp only) <;> (exact CC4.out _ B10.out))
        clear hHeld
        have hHeld := hHeld2
        clear hHeld2 hK K
        try simp only [Act.put, List.setIfInBounds_toArray, List.set_cons_zero, List.set_cons_succ]
        refine wpAnyH_take (i := 6) (v := ?_) (by simp only [List.getElem?_toArray, List.getElem?_cons_succ, List.getElem?_cons_zero]; rfl) (by kernel_rfl) (by kernel_rfl) (by kernel_rfl) (fun _ _ _ h => h) (Or.inl ⟨by rfl, ?_⟩) (by assumption) ?_
        rotate_left 1
        · (intro w hSw; (try dsimp only at hSw); go_simp; try with_reducible rfl)
        try simp only [Act.put, List.setIfInBounds_toArray, List.set_cons_zero, List.set_cons_succ]
        refine wpAnyH_take (i := 7) (v := ?_) (by simp only [List.getElem?_toArray, List.getElem?_cons_succ, List.getElem?_cons_zero]; rfl) (by kernel_rfl) (by kernel_rfl) (by kernel_rfl) (fun _ _ _ h => h) (Or.inl ⟨by rfl, ?_⟩) (by assumption) ?_
        rotate_left 1
        · (intro w hSw; (try dsimp only at hSw); go_simp; try with_reducible rfl)
        try simp only [Act.put, List.setIfInBounds_toArray, List.set_cons_zero, List.set_cons_succ]
        refine wpAnyH_take (i := 8) (v := ?_) (by simp only [List.getElem?_toArray, List.getElem?_cons_succ, List.getElem?_cons_zero]; rfl) (by kernel_rfl) (by kernel_rfl) (by kernel_rfl) (fun _ _ _ h => h) (Or.inl ⟨by rfl, ?_⟩) (by assumption) ?_
        rotate_left 1
        · (intro w hSw; (try dsimp only at hSw); go_simp; try with_reducible rfl)
        try simp only [Act.put, List.setIfInBounds_toArray, List.set_cons_zero, List.set_cons_succ]
        have P10 := hide (P4.out.below B10.out)
        have k1 := P10.out.quad.choose_spec.choose_spec.2.1
        have kf := P10.out.quad.choose_spec.choose_spec.2.2.2.2.2 1
        refine wpAnyH_done (by kernel_rfl) ?_ _
        refine LastQ.step (by simp only [List.getElem?_toArray, List.getElem?_cons_succ, List.getElem?_cons_zero]; rfl) (by rfl) ?_
        go_simp
        refine NoPanic.normal ?_
        obtain ⟨st5, hst5⟩ : ∃ s : PkS, s = { st with left := left - (M : Int) } := ⟨_, rfl⟩
        have P5 : Hid (Pkr base (w10.setCell ⟨k, 1, none⟩ (.int .i64 (left - (M : Int)))) k st5) := hide (by rw [hst5]; exact P10.out.left_ _)
        have KT5 : Hid (Kt TP base w (w10.setCell ⟨k, 1, none⟩ (.int .i64 (left - (M : Int))))) := hide ((KT4.out.trans (Kt.of_below B10.out)).trans (P10.out.setKt 1 _))
        have L5 : Hid (st5.out.length ≤ 10000) := hide (by rw [hst5]; exact hol)
        have HI : Hid (itemS add st = (tryS (begS st5) (add (begS st5).file (lastP (begS st5))).1).2) := hide (by rw [hst5, HLEFT.out, HM.out]; unfold itemS; rw [if_neg HNE.out, if_neg (fun h => by have := HFAIL.out; rw [← HP.out, ← HPV.out, ← HOKV.out] at h; exact this (by first | (simp at h; done) | exact ⟨by trivial, h.2⟩)), ← HP.out]; rfl)
        generalize w10.setCell ⟨k, 1, none⟩ (.int .i64 (left - (M : Int))) = w5 at *
        clear k1 kf hst5 hwl hHeld
        go_wp2_with fail
        refine (begin_any base k st5 w5 P5.out (Nat.le_trans L5.out (by decide)) (Nat.le_trans HB.out KT5.out.size)).mono ?_
        rintro e w6 ⟨rfl, h6, k6⟩
        have KT6 := hide (KT5.out.trans k6)
        obtain ⟨s6, hs6⟩ : ∃ s, s = begS st5 := ⟨_, rfl⟩
        have hq : s6.out.length = st5.out.length + 1 := by rw [hs6]; simp [begS]
        have hfl6 : s6.file = -1 := by rw [hs6]; rfl
        have hlp : lastP s6 = ⟨decide (st5.left ≤ 2), [], []⟩ := by rw [hs6]; simp [lastP, begS, List.getLastD_eq_getLast?]
        rw [← hs6] at h6 HI
        obtain ⟨q, hqq⟩ : ∃ q, q = st5.out.length := ⟨_, rfl⟩
        rw [← hqq] at hq
        have hqb : q ≤ 10000 := by rw [hqq]; exact L5.out
        have P6 := hide h6
        obtain ⟨A6, c6, r0, -, -, r3, rO, -⟩ := h6.quad
        obtain ⟨g, p6, B1, d1, B2, d2, hA6, hbg, ⟨csg, hgb⟩, hp6, hF6, hI6, o0, o1, o2⟩ := rO.at (j := q) (by omega)
        have hp6e : p6 = lastP s6 := by
          have h1 : s6.out[q]? = some (lastP s6) := by
            unfold lastP
            rw [List.getLastD_eq_getLast?, List.getLast?_eq_getElem?, hq, Nat.add_sub_cancel, hp6]
            rfl
          rw [hp6] at h1
          exact Option.some.inj h1
        subst hA6
        rw [hq] at r0
        rw [hfl6] at r3
        have hfs : p6.fs = [] := by rw [hp6e, hlp]
        have his : p6.is = [] := by rw [hp6e, hlp]
        have HGL := hide hgb.lt
        have HF6 := hide hF6
        have HI6 := hide hI6
        have HP6 := hide hp6e
        have HQ := hide hq
        have HS6 := hide hs6
        have HFS := hide hfs
        have HIS := hide his
        have R3 := hide r3
        have hOk := hide (HOK.out p6 hfs his)
        have hen := HA.out.1
        have CC6 := hide (fun (w' : World) (hb : Below w6.heap.size w6 w') => show w'.cell? ⟨k, 0, none⟩ = some (.slice (some ⟨g, 0, none⟩) (q + 1) c6) ∧ w'.cell? ⟨g, q * 3, none⟩ = some (.bool p6.nw) ∧ w'.cell? ⟨g, q * 3 + 1, none⟩ = some (.slice B1 p6.fs.length d1) ∧ w'.cell? ⟨g, q * 3 + 2, none⟩ = some (.slice B2 p6.is.length d2) from
          ⟨(hb.cell (p := ⟨k, 0, none⟩) P6.out.lt).trans r0, (hb.cell (p := ⟨g, q * 3, none⟩) hgb.lt).trans o0, (hb.cell (p := ⟨g, q * 3 + 1, none⟩) hgb.lt).trans o1, (hb.cell (p := ⟨g, q * 3 + 2, none⟩) hgb.lt).trans o2⟩)
        have hw64 : IntKind.i64.wrap (q : Int) = (q : Int) := by rw [IntKind.wrap_i64]; omega
        have hqs : (q : Int) < (q : Int) + 1 := by omega
        have HFL6 := hide hfl6
        clear h6 k6 hs6 hqq hfl6 hlp hq r0 r3 rO hgb hp6 hF6 hI6 o0 o1 o2 hp6e hfs his
        go_wp2_with fail
        have s0 := CC6.out _ (Below.refl _ _).drew
        refine wp_region_noPanic ?_
        refine wp_region_held_drew (S := (fun w' => w'.cell? ⟨k, 0, none⟩ = some (.slice (some ⟨g, 0, none⟩) (q + 1) c6) ∧ w'.cell? ⟨g, q * 3, none⟩ = some (.bool p6.nw) ∧ w'.cell? ⟨g, q * 3 + 1, none⟩ = some (.slice B1 p6.fs.length d1) ∧ w'.cell? ⟨g, q * 3 + 2, none⟩ = some (.slice B2 p6.is.length d2))) (by kernel_rfl) ?_ (fun hHeld => ?_)
        · ((try dsimp only) <;> (first | trivial | assumption | go_keep))
        clear s0
        have BD := hide ((Below.refl w6.heap.size w6).drew)
        refine wpAnyH_take (i := 0) (v := ?_) (by simp only [List.getElem?_toArray, List.getElem?_cons_succ, List.getElem?_cons_zero]; rfl) (by kernel_rfl) (by kernel_rfl) (by kernel_rfl) (fun _ _ _ h => h) (Or.inl ⟨by rfl, ?_⟩) (by assumption) ?_
        rotate_left 1
        · (intro w hSw; (try dsimp only at hSw); go_simp; try with_reducible rfl)
        try simp only [Act.put, List.setIfInBounds_toArray, List.set_cons_zero, List.set_cons_succ]
        refine wpAnyH_take (i := 1) (v := ?_) (by simp only [List.getElem?_toArray, List.getElem?_cons_succ, List.getElem?_cons_zero]; rfl) (by kernel_rfl) (by kernel_rfl) (by kernel_rfl) (fun _ _ _ h => h) (Or.inl ⟨by rfl, ?_⟩) (by assumption) ?_
        rotate_left 1
        · (intro w hSw; (try dsimp only at hSw); go_simp; try with_reducible rfl)
        try simp only [Act.put, List.setIfInBounds_toArray, List.set_cons_zero, List.set_cons_succ]
        refine wpAnyH_take (i := 2) (v := ?_) (by simp only [List.getElem?_toArray, List.getElem?_cons_succ, List.getElem?_cons_zero]; rfl) (by kernel_rfl) (by kernel_rfl) (by kernel_rfl) (fun _ _ _ h => h) (Or.inl ⟨by rfl, ?_⟩) (by assumption) ?_
        rotate_left 1
        · (intro w hSw; (try dsimp only at hSw); go_simp; try with_reducible rfl)
        try simp only [Act.put, List.setIfInBounds_toArray, List.set_cons_zero, List.set_cons_succ]
        refine wpAnyH_take (i := 3) (v := ?_) (by simp only [List.getElem?_toArray, List.getElem?_cons_succ, List.getElem?_cons_zero]; rfl) (by kernel_rfl) (by kernel_rfl) (by kernel_rfl) (fun _ _ _ h => h) (Or.inl ⟨by rfl, ?_⟩) (by assumption) ?_
        rotate_left 1
        · (intro w hSw; (try dsimp only at hSw); go_simp; try with_reducible rfl)
        try simp only [Act.put, List.setIfInBounds_toArray, List.set_cons_zero, List.set_cons_succ]
        refine wpAnyH_take (i := 4) (v := ?_) (by simp only [List.getElem?_toArray, List.getElem?_cons_succ, List.getElem?_cons_zero]; rfl) (by kernel_rfl) (by kernel_rfl) (by kernel_rfl) (fun _ _ _ h => h) (Or.inl ⟨by rfl, ?_⟩) (by assumption) ?_
        rotate_left 1
        · (intro w hSw; (try dsimp only at hSw); go_simp; try with_reducible rfl)
        try simp only [Act.put, List.setIfInBounds_toArray, List.set_cons_zero, List.set_cons_succ]
        refine wpAnyH_take (i := 5) (v := ?_) (by simp only [List.getElem?_toArray, List.getElem?_cons_succ, List.getElem?_cons_zero]; rfl) (by kernel_rfl) (by kernel_rfl) (by kernel_rfl) (fun _ _ _ h => h) (Or.inl ⟨by rfl, ?_⟩) (by assumption) ?_
        rotate_left 1
        · (intro w hSw; (try dsimp only at hSw); go_simp; try with_reducible rfl)
        try simp only [Act.put, List.setIfInBounds_toArray, List.set_cons_zero, List.set_cons_succ]
        refine wpAnyH_take (i := 6) (v := ?_) (by simp only [List.getElem?_toArray, List.getElem?_cons_succ, List.getElem?_cons_zero]; rfl) (by kernel_rfl) (by kernel_rfl) (by kernel_rfl) (fun _ _ _ h => h) (Or.inl ⟨by rfl, ?_⟩) (by assumption) ?_
        rotate_left 1
        · (intro w hSw; (try dsimp only at hSw); go_simp; try with_reducible rfl)
        try simp only [Act.put, List.setIfInBounds_toArray, List.set_cons_zero, List.set_cons_succ]
        refine wpAnyH_take (i := 7) (v := ?_) (by simp only [List.getElem?_toArray, List.getElem?_cons_succ, List.getElem?_cons_zero]; rfl) (by kernel_rfl) (by kernel_rfl) (by kernel_rfl) (fun _ _ _ h => h) (Or.inl ⟨by rfl, ?_⟩) (by assumption) ?_
        rotate_left 1
        · (intro w hSw; (try dsimp only at hSw); go_simp; try with_reducible rfl)
        try simp only [Act.put, List.setIfInBounds_toArray, List.set_cons_zero, List.set_cons_succ]
        refine wpAnyH_take (i := 8) (v := ?_) (by simp only [List.getElem?_toArray, List.getElem?_cons_succ, List.getElem?_cons_zero]; rfl) (by kernel_rfl) (by kernel_rfl) (by kernel_rfl) (fun _ _ _ h => h) (Or.inl ⟨by rfl, ?_⟩) (by assumption) ?_
        rotate_left 1
        · (intro w hSw; (try dsimp only at hSw); go_simp; try with_reducible rfl)
        try simp only [Act.put, List.setIfInBounds_toArray, List.set_cons_zero, List.set_cons_succ]
        refine wpAnyH_take (i := 9) (v := ?_) (by simp only [List.getElem?_toArray, List.getElem?_cons_succ, List.getElem?_cons_zero]; rfl) (by kernel_rfl) (by kernel_rfl) (by kernel_rfl) (fun _ _ _ h => h) (Or.inl ⟨by rfl, ?_⟩) (by assumption) ?_
        rotate_left 1
        · (intro w hSw; (try dsimp only at hSw); go_simp; try with_reducible rfl)
        try simp only [Act.put, List.setIfInBounds_toArray, List.set_cons_zero, List.set_cons_succ]
        refine wpAnyH_take (i := 10) (v := ?_) (by simp only [List.getElem?_toArray, List.getElem?_cons_succ, List.getElem?_cons_zero]; rfl) (by kernel_rfl) (by kernel_rfl) (by kernel_rfl) (fun _ _ _ h => h) (Or.inl ⟨by rfl, ?_⟩) (by assumption) ?_
        rotate_left 1
        · (intro w hSw; (try dsimp only at hSw); go_simp; try with_reducible rfl)
        try simp only [Act.put, List.setIfInBounds_toArray, List.set_cons_zero, List.set_cons_succ]
        refine wpAnyH_take (i := 11) (v := ?_) (by simp only [List.getElem?_toArray, List.getElem?_cons_succ, List.getElem?_cons_zero]; rfl) (by kernel_rfl) (by kernel_rfl) (by kernel_rfl) (fun _ _ _ h => h) (Or.inl ⟨by rfl, ?_⟩) (by assumption) ?_
        rotate_left 1
        · (intro w hSw; (try dsimp only at hSw); go_simp; try with_reducible rfl)
        try simp only [Act.put, List.setIfInBounds_toArray, List.set_cons_zero, List.set_cons_succ]
        refine wpAnyH_take (i := 12) (v := ?_) (by simp only [List.getElem?_toArray, List.getElem?_cons_succ, List.getElem?_cons_zero]; rfl) (by kernel_rfl) (by kernel_rfl) (by kernel_rfl) (fun _ _ _ h => h) (Or.inl ⟨by rfl, ?_⟩) (by assumption) ?_
        rotate_left 1
        · (intro w hSw; (try dsimp only at hSw); go_simp; try with_reducible rfl)
        try simp only [Act.put, List.setIfInBounds_toArray, List.set_cons_zero, List.set_cons_succ]
        refine wpAnyH_ready (rs := [13, 17]) (by kernel_rfl) (by simp) ?_
        refine AllReadyH.cons (by simp only [List.getElem?_toArray, List.getElem?_cons_succ, List.getElem?_cons_zero]; rfl) (fun K hK => ?_) ?_
        rotate_left 1
        refine AllReadyH.cons (by simp only [List.getElem?_toArray, List.getElem?_cons_succ, List.getElem?_cons_zero]; rfl) (fun K hK => ?_) ?_
        rotate_left 1
        exact AllReadyH.nil
        focus
          go_simp
          refine (HA.out.2.1 _ (-1) p6 B1 d1 B2 d2 ((KT6.out.trans (Kt.of_below BD.out))) ((BD.out.cell (p := ⟨k, 3, none⟩) P6.out.lt).trans R3.out) (HF6.out.below BD.out) (RwAt.below HI6.out BD.out) (by rw [HFS.out]; simp) (by rw [HIS.out]; simp) (by rw [HFS.out]; simp [lsN, sumN]) hOk.out (Nat.le_trans HB.out (Nat.le_trans KT6.out.size BD.out.size))).mono ?_; rintro e w7 ⟨E1, f1, E2, f2, rfl, hnw, hF7, hI7, hb⟩; have B7 := hide (BD.out.trans (hb.mono BD.out.size)); have HF7 := hide hF7; have HI7 := hide hI7; have HNW := hide hnw; clear hb hF7 hI7 hnw; unfold pcC; go_wp2_with fail
          refine hK.out _ _ ?_ (fun hHeld2 => ?_)
          · ((try dsimp only) <;> (exact CC6.out _ B7.out))
          clear hHeld
          have hHeld := hHeld2
          clear hHeld2 hK K
          try simp only [Act.put, List.setIfInBounds_toArray, List.set_cons_zero, List.set_cons_succ]
          refine wpAnyH_take (i := 14) (v := ?_) (by simp only [List.getElem?_toArray, List.getElem?_cons_succ, List.getElem?_cons_zero]; rfl) (by kernel_rfl) (by kernel_rfl) (by kernel_rfl) (fun _ _ _ h => h) (Or.inl ⟨by rfl, ?_⟩) (by assumption) ?_
          rotate_left 1
          · (intro w hSw; (try dsimp only at hSw); go_simp; try with_reducible rfl)
          try simp only [Act.put, List.setIfInBounds_toArray, List.set_cons_zero, List.set_cons_succ]
          refine wpAnyH_take (i := 15) (v := ?_) (by simp only [List.getElem?_toArray, List.getElem?_cons_succ, List.getElem?_cons_zero]; rfl) (by kernel_rfl) (by kernel_rfl) (by kernel_rfl) (fun _ _ _ h => h) (Or.inl ⟨by rfl, ?_⟩) (by assumption) ?_
          rotate_left 1
          · (intro w hSw; (try dsimp only at hSw); go_simp; try with_reducible rfl)
          try simp only [Act.put, List.setIfInBounds_toArray, List.set_cons_zero, List.set_cons_succ]
          refine wpAnyH_take (i := 16) (v := ?_) (by simp only [List.getElem?_toArray, List.getElem?_cons_succ, List.getElem?_cons_zero]; rfl) (by kernel_rfl) (by kernel_rfl) (by kernel_rfl) (fun _ _ _ h => h) (Or.inl ⟨by rfl, ?_⟩) (by assumption) ?_
          rotate_left 1
          · (intro w hSw; (try dsimp only at hSw); go_simp; try with_reducible rfl)
          try simp only [Act.put, List.setIfInBounds_toArray, List.set_cons_zero, List.set_cons_succ]
          have B8 := hide (B7.out.alloc B7.out.size (.cells #[.bool false, .slice none 0 0, .slice none 0 0] 37))
          refine wpAnyH_ready (rs := [17]) (by kernel_rfl) (by simp) ?_
          refine AllReadyH.cons (by simp only [List.getElem?_toArray, List.getElem?_cons_succ, List.getElem?_cons_zero]; rfl) (fun K hK => ?_) ?_
          rotate_left 1
          · exact AllReadyH.nil
          go_simp
          refine hK.out _ _ ?_ (fun hHeld2 => ?_)
          · ((try dsimp only) <;> (exact CC6.out _ B8.out))
          clear hHeld
          have hHeld := hHeld2
          clear hHeld2 hK K
          try simp only [Act.put, List.setIfInBounds_toArray, List.set_cons_zero, List.set_cons_succ]
          have hne7 : k ≠ w7.heap.size ∧ g ≠ w7.heap.size := ⟨by have := P6.out.lt; have := B7.out.size; omega, by have := HGL.out; have := B7.out.size; omega⟩
          refine wpAnyH_ready (rs := [18]) (by kernel_rfl) (by simp) ?_
          refine AllReadyH.cons (by simp only [List.getElem?_toArray, List.getElem?_cons_succ, List.getElem?_cons_zero]; rfl) (fun K hK => ?_) ?_
          rotate_left 1
          · exact AllReadyH.nil
          go_simp
          refine hK.out _ _ ?_ (fun hHeld2 => ?_)
          · ((try dsimp only) <;> (exact CC6.out _ (B7.out.alloc B7.out.size _)))
          clear hHeld
          have hHeld := hHeld2
          clear hHeld2 hK K
          try simp only [Act.put, List.setIfInBounds_toArray, List.set_cons_zero, List.set_cons_succ]
          obtain ⟨WW, hWW⟩ : ∃ W, W = w7.alloc (.cells #[.bool p6.nw, .slice E1 (add (-1) p6).1.fs.length f1, .slice E2 (add (-1) p6).1.is.length f2] 37) := ⟨_, rfl⟩
          have BW : Hid (Below w6.heap.size w6 WW) := hide (by rw [hWW]; exact B7.out.alloc B7.out.size _)
          have KW : Hid (Blk WW w7.heap.size 37 #[.bool p6.nw, .slice E1 (add (-1) p6).1.fs.length f1, .slice E2 (add (-1) p6).1.is.length f2]) := hide (by rw [hWW]; exact Blk.new _ _ _)
          have FW : Hid (FisAt base base WW E1 (add (-1) p6).1.fs.length (add (-1) p6).1.fs) := hide (by rw [hWW]; exact HF7.out.below ((Below.refl _ _).alloc (Nat.le_refl _) _))
          have IW : Hid (IntsAt base base WW E2 (add (-1) p6).1.is.length (add (-1) p6).1.is) := hide (by rw [hWW]; exact RwAt.below HI7.out ((Below.refl _ _).alloc (Nat.le_refl _) _))
          rw [← hWW] at hHeld ⊢
          clear hWW
          generalize w7.heap.size = bx at *
          refine wpAnyH_take (i := 19) (v := ?_) (by simp only [List.getElem?_toArray, List.getElem?_cons_succ, List.getElem?_cons_zero]; rfl) (by kernel_rfl) (by kernel_rfl) (by kernel_rfl) (fun _ _ _ h => h) (Or.inl ⟨by rfl, ?_⟩) (by assumption) ?_
          rotate_left 1
          · (intro w hSw; (try dsimp only at hSw); go_simp; try with_reducible rfl)
          try simp only [Act.put, List.setIfInBounds_toArray, List.set_cons_zero, List.set_cons_succ]
          refine wpAnyH_done (by kernel_rfl) ?_ _
          refine NoPanic.normal ?_
          have hbd := HA.out.2.2 (-1) p6 (by rw [HFS.out]; simp) (by rw [HIS.out]; simp) (by rw [HFS.out]; simp [lsN, sumN])
          have TR := try_any base k s6 (add (-1) p6).1 E1 E2 f1 f2 WW (P6.out.below BW.out) FW.out IW.out hbd.1 hbd.2.1 hbd.2.2 (by intro e; have := HQ.out; rw [e] at this; simp at this) (by rw [HQ.out]; omega) (Nat.le_trans HB.out (Nat.le_trans KT6.out.size BW.out.size))
          unfold pcC at TR
          rw [HNW.out] at TR
          have TR := hide TR
          have z0 := KW.out.cell 0
          have z1 := KW.out.cell 1
          have z2 := KW.out.cell 2
          simp only [List.getElem?_toArray, List.getElem?_cons_succ, List.getElem?_cons_zero] at z0 z1 z2
          clear hbd hHeld
          go_wp2_with fail
          refine TR.out.mono ?_
          rintro e w9 ⟨rfl, hP9, hK9, -⟩
          have P9 := hide hP9
          have K9 := hide hK9
          clear hP9 hK9 TR z0 z1 z2
          go_wp2_with fail
          go_end0
          have hI := HI.out
          rw [HFL6.out, ← HP6.out] at hI
          exact ⟨rfl, by rw [hI]; exact P9.out, KT6.out.trans ((Kt.of_below BW.out).trans K9.out)⟩
        focus
          go_simp
          refine hK.out _ _ ?_ (fun hHeld2 => ?_)
          · ((try dsimp only) <;> (exact CC6.out _ ((Below.refl _ _).alloc (Nat.le_refl _) _).drew))
          clear hHeld
          have hHeld := hHeld2
          clear hHeld2 hK K
          try simp only [Act.put, List.setIfInBounds_toArray, List.set_cons_zero, List.set_cons_succ]
          have BA := hide (((Below.refl w6.heap.size w6).alloc (Nat.le_refl _) (.cells #[.bool false, .slice none 0 0, .slice none 0 0] 37)).drew)
          have KB0 := hide (show Blk ((w6.alloc (.cells #[.bool false, .slice none 0 0, .slice none 0 0] 37)).drew) w6.heap.size 37 #[.bool false, .slice none 0 0, .slice none 0 0] from Blk.new w6 _ _)
          generalize (w6.alloc (.cells #[.bool false, .slice none 0 0, .slice none 0 0] 37)).drew = wa at *
          refine wpAnyH_ready (rs := [13]) (by kernel_rfl) (by simp) ?_
          refine AllReadyH.cons (by simp only [List.getElem?_toArray, List.getElem?_cons_succ, List.getElem?_cons_zero]; rfl) (fun K hK => ?_) ?_
          rotate_left 1
          · exact AllReadyH.nil
          go_simp
          refine (HA.out.2.1 _ (-1) p6 B1 d1 B2 d2 ((KT6.out.trans (Kt.of_below BA.out))) ((BA.out.cell (p := ⟨k, 3, none⟩) P6.out.lt).trans R3.out) (HF6.out.below BA.out) (RwAt.below HI6.out BA.out) (by rw [HFS.out]; simp) (by rw [HIS.out]; simp) (by rw [HFS.out]; simp [lsN, sumN]) hOk.out (Nat.le_trans HB.out (Nat.le_trans KT6.out.size BA.out.size))).mono ?_; rintro e w7 ⟨E1, f1, E2, f2, rfl, hnw, hF7, hI7, hb⟩; have B7 := hide (BA.out.trans (hb.mono BA.out.size)); have KB7 := hide (KB0.out.below hb); have HF7 := hide hF7; have HI7 := hide hI7; have HNW := hide hnw; clear hb hF7 hI7 hnw; unfold pcC; go_wp2_with fail
          refine hK.out _ _ ?_ (fun hHeld2 => ?_)
          · ((try dsimp only) <;> (exact CC6.out _ B7.out))
          clear hHeld
          have hHeld := hHeld2
          clear hHeld2 hK K
          try simp only [Act.put, List.setIfInBounds_toArray, List.set_cons_zero, List.set_cons_succ]
          refine wpAnyH_take (i := 14) (v := ?_) (by simp only [List.getElem?_toArray, List.getElem?_cons_succ, List.getElem?_cons_zero]; rfl) (by kernel_rfl) (by kernel_rfl) (by kernel_rfl) (fun _ _ _ h => h) (Or.inl ⟨by rfl, ?_⟩) (by assumption) ?_
          rotate_left 1
          · (intro w hSw; (try dsimp only at hSw); go_simp; try with_reducible rfl)
          try simp only [Act.put, List.setIfInBounds_toArray, List.set_cons_zero, List.set_cons_succ]
          refine wpAnyH_take (i := 15) (v := ?_) (by simp only [List.getElem?_toArray, List.getElem?_cons_succ, List.getElem?_cons_zero]; rfl) (by kernel_rfl) (by kernel_rfl) (by kernel_rfl) (fun _ _ _ h => h) (Or.inl ⟨by rfl, ?_⟩) (by assumption) ?_
          rotate_left 1
          · (intro w hSw; (try dsimp only at hSw); go_simp; try with_reducible rfl)
          try simp only [Act.put, List.setIfInBounds_toArray, List.set_cons_zero, List.set_cons_succ]
          refine wpAnyH_take (i := 16) (v := ?_) (by simp only [List.getElem?_toArray, List.getElem?_cons_succ, List.getElem?_cons_zero]; rfl) (by kernel_rfl) (by kernel_rfl) (by kernel_rfl) (fun _ _ _ h => h) (Or.inl ⟨by rfl, ?_⟩) (by assumption) ?_
          rotate_left 1
          · (intro w hSw; (try dsimp only at hSw); go_simp; try with_reducible rfl)
          try simp only [Act.put, List.setIfInBounds_toArray, List.set_cons_zero, List.set_cons_succ]
          have e0 := KB7.out.cell 0
          have e1 := KB7.out.cell 1
          have e2 := KB7.out.cell 2
          have ef0 := KB7.out.frozen 0
          have ef1 := KB7.out.frozen 1
          have ef2 := KB7.out.frozen 2
          simp only [List.getElem?_toArray, List.getElem?_cons_succ, List.getElem?_cons_zero] at e0 e1 e2
          refine wpAnyH_ready (rs := [18]) (by kernel_rfl) (by simp) ?_
          refine AllReadyH.cons (by simp only [List.getElem?_toArray, List.getElem?_cons_succ, List.getElem?_cons_zero]; rfl) (fun K hK => ?_) ?_
          rotate_left 1
          · exact AllReadyH.nil
          go_simp
          refine hK.out _ _ ?_ (fun hHeld2 => ?_)
          · ((try dsimp only) <;> (exact CC6.out _ (((B7.out.setCell (p := ⟨w6.heap.size, 0, none⟩) (Nat.le_refl _) _).setCell (p := ⟨w6.heap.size, 1, none⟩) (Nat.le_refl _) _).setCell (p := ⟨w6.heap.size, 2, none⟩) (Nat.le_refl _) _)))
          clear hHeld
          have hHeld := hHeld2
          clear hHeld2 hK K
          try simp only [Act.put, List.setIfInBounds_toArray, List.set_cons_zero, List.set_cons_succ]
          clear e0 e1 e2 ef0 ef1 ef2
          obtain ⟨WW, hWW⟩ : ∃ W, W = ((w7.setCell ⟨w6.heap.size, 0, none⟩ (.bool p6.nw)).setCell ⟨w6.heap.size, 1, none⟩ (.slice E1 (add (-1) p6).1.fs.length f1)).setCell ⟨w6.heap.size, 2, none⟩ (.slice E2 (add (-1) p6).1.is.length f2) := ⟨_, rfl⟩
          have BW : Hid (Below w6.heap.size w6 WW) := hide (by rw [hWW]; exact ((B7.out.setCell (p := ⟨w6.heap.size, 0, none⟩) (Nat.le_refl _) _).setCell (p := ⟨w6.heap.size, 1, none⟩) (Nat.le_refl _) _).setCell (p := ⟨w6.heap.size, 2, none⟩) (Nat.le_refl _) _)
          have KW : Hid (Blk WW w6.heap.size 37 #[.bool p6.nw, .slice E1 (add (-1) p6).1.fs.length f1, .slice E2 (add (-1) p6).1.is.length f2]) := hide (by rw [hWW]; exact ((KB7.out.set 0 _).set 1 _).set 2 _)
          have KTW : Hid (Kt TP base w7 WW) := hide (by
            have hT : base ≤ w6.heap.size ∧ ∀ t cs, Blk w7 w6.heap.size t cs → t ∈ TP := ⟨Nat.le_trans HB.out KT6.out.size, fun t cs hB => by have := (Blk.type hB KB7.out).1; subst this; simp⟩
            rw [hWW]
            exact (((Kt.refl TP base w7).set (p := ⟨w6.heap.size, 0, none⟩) (.inl hT) _).set (p := ⟨w6.heap.size, 1, none⟩) (.inl hT) _).set (p := ⟨w6.heap.size, 2, none⟩) (.inl hT) _)
          have FW : Hid (FisAt base base WW E1 (add (-1) p6).1.fs.length (add (-1) p6).1.fs) := hide (HF7.out.kt KTW.out (by decide) (by decide))
          have IW : Hid (IntsAt base base WW E2 (add (-1) p6).1.is.length (add (-1) p6).1.is) := hide (RwAt.kt HI7.out KTW.out (by decide))
          rw [← hWW] at hHeld ⊢
          clear hWW
          refine wpAnyH_take (i := 19) (v := ?_) (by simp only [List.getElem?_toArray, List.getElem?_cons_succ, List.getElem?_cons_zero]; rfl) (by kernel_rfl) (by kernel_rfl) (by kernel_rfl) (fun _ _ _ h => h) (Or.inl ⟨by rfl, ?_⟩) (by assumption) ?_
          rotate_left 1
          · (intro w hSw; (try dsimp only at hSw); go_simp; try with_reducible rfl)
          try simp only [Act.put, List.setIfInBounds_toArray, List.set_cons_zero, List.set_cons_succ]
          refine wpAnyH_done (by kernel_rfl) ?_ _
          refine NoPanic.normal ?_
          have hbd := HA.out.2.2 (-1) p6 (by rw [HFS.out]; simp) (by rw [HIS.out]; simp) (by rw [HFS.out]; simp [lsN, sumN])
          have TR := try_any base k s6 (add (-1) p6).1 E1 E2 f1 f2 WW (P6.out.below BW.out) FW.out IW.out hbd.1 hbd.2.1 hbd.2.2 (by intro e; have := HQ.out; rw [e] at this; simp at this) (by rw [HQ.out]; omega) (Nat.le_trans HB.out (Nat.le_trans KT6.out.size BW.out.size))
          unfold pcC at TR
          rw [HNW.out] at TR
          have TR := hide TR
          have z0 := KW.out.cell 0
          have z1 := KW.out.cell 1
          have z2 := KW.out.cell 2
          simp only [List.getElem?_toArray, List.getElem?_cons_succ, List.getElem?_cons_zero] at z0 z1 z2
          clear hbd hHeld
          go_wp2_with fail
          refine TR.out.mono ?_
          rintro e w9 ⟨rfl, hP9, hK9, -⟩
          have P9 := hide hP9
          have K9 := hide hK9
          clear hP9 hK9 TR z0 z1 z2
          go_wp2_with fail
          go_end0
          have hI := HI.out
          rw [HFL6.out, ← HP6.out] at hI
          exact ⟨rfl, by rw [hI]; exact P9.out, KT6.out.trans ((Kt.of_below BW.out).trans K9.out)⟩
end Go.Proofs.YtopjkpopdffkeaaDoor
