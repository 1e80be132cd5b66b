import Derived.Test.YtlobkefacnedeaaDoorJc05
set_option linter.unusedVariables false
set_option linter.unusedSimpArgs false
/- The walk over marllaw06.Own. -/
namespace Go.Proofs.YtlobkefacnedeaaDoor
open Go.RowKit
set_option maxRecDepth 100000
attribute [local go_sem ↓] Go.wp_at_zero Go.wp_at_succ

theorem FRow.alloc {base n c : Nat} {w : World} {A : Option Addr} {fs : List FI} (h : FRow base w A n c fs) (o : Obj) : FRow base (w.alloc o) A n c fs := h.below ((Below.refl _ _).alloc (Nat.le_refl _) _)
/-- A cell of a block that is not the row's own. -/
theorem FRow.far2 {base n c : Nat} {w : World} {A : Option Addr} {fs : List FI} (h : FRow base w A n c fs) {p : Addr} {t : TypeId} {cs : Array Value} (hB : Blk w p.block t cs) (hb : base ≤ p.block) (h1 : t ≠ 3) (h2 : ∀ g, (Value.slice A n c).ownBlock = some g → g ≠ p.block) (u : Value) : FRow base (w.setCell p u) A n c fs := by
  obtain ⟨ds, e1, e2, e3, e4⟩ := h
  exact ⟨ds, e1, e2, e3.keep_far h2 u, fun j x f hx hf => (e4 j x f hx hf).kt (T := [t]) ((Kt.refl _ _ _).set (.inl ⟨hb, fun t' cs' hB' => by simp [(Blk.type hB' hB).1]⟩) u) (by simpa using Ne.symm h1)⟩
theorem FRow.lt {base n c : Nat} {w : World} {A : Option Addr} {fs : List FI} (h : FRow base w A n c fs) : ∀ g, (Value.slice A n c).ownBlock = some g → base ≤ g ∧ g < w.heap.size := fun g hg => by
  obtain ⟨hb, cs, hB⟩ := h.blk hg
  exact ⟨hb, hB.lt⟩
theorem fis_num {lo base j n : Nat} {w : World} {A : Option Addr} {fs : List FI} (h : FisAt lo base w A j fs) (e : j = n) : FisAt lo base w A n fs := e ▸ h
set_option maxRecDepth 100000 in
set_option maxHeartbeats 4000000 in
theorem own_any (e c i p x : Int) (A1 A2 : Option Addr) (n1 c1 n2 c2 lo base lo2 base2 : Nat) (fs : List FI) (is : List Int) (w : World) (hf : FisAt lo base w A1 n1 fs) (hi : IntsAt lo2 base2 w A2 n2 is) (hn1 : n1 ≤ 1000000) (hn2 : n2 ≤ 1000000) (hfl : ∀ f ∈ fs, f.ls.length ≤ 1000000) :
    Calls Tryd.prog 46 #[.agg (partC e c i p x A1 n1 c1 A2 n2 c2)] w fun r w' => ∃ B1 d1 B2 d2, r = .returned (.agg (partC e c i p x B1 n1 d1 B2 n2 d2)) ∧ FisAt w.heap.size w.heap.size w' B1 n1 fs ∧ IntsAt w.heap.size w.heap.size w' B2 n2 is ∧ Below w.heap.size w w' := by
  have HF := hide hf
  have HI := hide hi
  have HFL := hide hfl
  have HL1 := hide hf.len
  have HL2 := hide (IntsAt.len hi)
  have i0 := fun w => int_slice0 w
  have lf := fun w xs h => one_slice etyF w xs h (by decide)
  clear hf hi hfl
  unfold partC
  go_enter Tryd.func46, Tryd.ntmps46
  obtain ⟨bs, hbs⟩ : ∃ b, b = w.heap.size := ⟨_, rfl⟩
  go_upto_region 1 with fail
  obtain ⟨w2, hw2⟩ : ∃ W, W = ((w.alloc (.cells #[.int .i64 e, .int .i64 c, .int .i64 i, .int .i64 p, .int .i64 x, .slice A1 n1 c1, .slice A2 n2 c2] 25)).alloc (.cells #[.int .i64 0, .int .i64 0, .int .i64 0, .int .i64 0, .int .i64 0, .slice none 0 0, .slice none 0 0] 25)) := ⟨_, rfl⟩
  have K2 : Hid (Blk w2 w.heap.size 25 #[.int .i64 e, .int .i64 c, .int .i64 i, .int .i64 p, .int .i64 x, .slice A1 n1 c1, .slice A2 n2 c2]) := hide (by rw [hw2]; exact (Blk.new _ _ _).alloc _)
  have R2 : Hid (Blk w2 (w.heap.size + 1) 25 #[.int .i64 0, .int .i64 0, .int .i64 0, .int .i64 0, .int .i64 0, .slice none 0 0, .slice none 0 0]) := hide (by
    rw [hw2]
    have := Blk.new (w.alloc (.cells #[.int .i64 e, .int .i64 c, .int .i64 i, .int .i64 p, .int .i64 x, .slice A1 n1 c1, .slice A2 n2 c2] 25)) 25 #[.int .i64 0, .int .i64 0, .int .i64 0, .int .i64 0, .int .i64 0, .slice none 0 0, .slice none 0 0]
    rwa [World.size_alloc] at this)
  have B2 : Hid (Below w.heap.size w w2) := hide (by rw [hw2]; exact ((Below.refl _ _).alloc (Nat.le_refl _) _).alloc (by simp) _)
  rw [← hw2]
  clear hw2
  have z6 := (K2.out.alloc (.cells #[] 3)).cell 6
  simp only [List.getElem?_toArray, List.getElem?_cons_succ, List.getElem?_cons_zero] at z6
  go_upto_region 2 with (
    at_builtin
    refine wpList_app _ rfl (.tmp 6) (.tmp 8) _ rfl etyJ w.heap.size (.slice (some ⟨w2.heap.size, 0, none⟩) 0 0) 0 [] rfl (own_nw B2.out.size) _ A2 n2 c2 (intC is) rfl ((RwAt.below HI.out B2.out).below ((Below.refl _ _).alloc (Nat.le_refl _) _)).sl (intC_one is) (by omega) (Nat.le_trans B2.out.size (by simp)) ?_
    intro A3 c3 w3 hown hg hnew
    have B3 := hide (bel_gr (B2.out.alloc B2.out.size (.cells #[] 3)) hg (fun g hg => by simp [Value.ownBlock] at hg; have := B2.out.size; omega) (Nat.le_trans B2.out.size (by simp)))
    have K3 : Hid (Blk w3 w.heap.size 25 #[.int .i64 e, .int .i64 c, .int .i64 i, .int .i64 p, .int .i64 x, .slice A1 n1 c1, .slice A2 n2 c2]) := hide ((hg.block _ (by have := K2.out.lt; simp; omega) (fun e => by simp [Value.ownBlock] at e; have := K2.out.lt; omega)).trans (K2.out.alloc _))
    have R3 : Hid (Blk w3 (w.heap.size + 1) 25 #[.int .i64 0, .int .i64 0, .int .i64 0, .int .i64 0, .int .i64 0, .slice none 0 0, .slice none 0 0]) := hide ((hg.block _ (by have := R2.out.lt; simp; omega) (fun e => by simp [Value.ownBlock] at e; have := R2.out.lt; omega)).trans (R2.out.alloc _))
    have I3 : Hid (IntsAt w.heap.size w.heap.size w3 A3 n2 is) := hide (by have := RwAt.of_own (base := w.heap.size) hown; simpa using this)
    have f6 := K3.out.frozen 6
    have y6 := K3.out.cell 6
    simp only [List.getElem?_toArray, List.getElem?_cons_succ, List.getElem?_cons_zero] at y6
    clear hown hg hnew)
  try simp only [Nat.zero_add]
  obtain ⟨w4, hw4⟩ : ∃ W, W = w3.setCell ⟨w.heap.size, 6, none⟩ (.slice A3 n2 c3) := ⟨_, rfl⟩
  have B4 : Hid (Below w.heap.size w w4) := hide (by rw [hw4]; exact B3.out.setCell (p := ⟨w.heap.size, 6, none⟩) (Nat.le_refl _) _)
  have K4 : Hid (Blk w4 w.heap.size 25 #[.int .i64 e, .int .i64 c, .int .i64 i, .int .i64 p, .int .i64 x, .slice A1 n1 c1, .slice A3 n2 c3]) := hide (by rw [hw4]; exact K3.out.set 6 _)
  have R4 : Hid (Blk w4 (w.heap.size + 1) 25 #[.int .i64 0, .int .i64 0, .int .i64 0, .int .i64 0, .int .i64 0, .slice none 0 0, .slice none 0 0]) := hide (by rw [hw4]; exact R3.out.far (p := ⟨w.heap.size, 6, none⟩) (by show w.heap.size + 1 ≠ w.heap.size; omega) _)
  have I4 : Hid (IntsAt w.heap.size w.heap.size w4 A3 n2 is) := hide (by
    rw [hw4]
    exact RwAt.kt I3.out (T := [25]) ((Kt.refl _ _ _).set (p := ⟨w.heap.size, 6, none⟩) (.inl ⟨Nat.le_refl _, fun t cs hB => by simp [(Blk.type hB K3.out).1]⟩) _) (by decide))
  rw [← hw4]
  clear hw4 y6 f6 z6 K3 R3 B3 I3 K2 R2 B2
  have z5 := K4.out.cell 5
  simp only [List.getElem?_toArray, List.getElem?_cons_succ, List.getElem?_cons_zero] at z5
  go_wp2_with fail
  clear z5
  go_loopw [3, 14] (fun v y wr => ∃ (j : Nat) (A : Option Addr) (d : Nat), j ≤ n1 ∧ y = .int .i64 (j : Int) ∧ v = .slice A j d ∧ FRow w.heap.size wr A j d (fs.take j) ∧ Kt [92] w.heap.size w4 wr) (fun _ y _ => n1 - (intOf y).toNat)
  case atStart => exact ⟨0, none, 0, Nat.zero_le _, rfl, rfl, ⟨[], rfl, rfl, World.ownsRow_nil _ _ _ _, by simp⟩, Kt.refl _ _ _⟩
  case round =>
    obtain ⟨j, A, d, hj, rfl, rfl, hR, hK⟩ := hrel
    have HR := hide hR
    have HK := hide hK
    have HB := hide (B4.out.trans (hK.below B4.out.size))
    clear hR hK
    by_cases hlt : j < n1
    · obtain ⟨b, off, f, A5, c5, hA, hFr, hfi, hI5, q0, q1, q2⟩ := (HF.out.below HB.out).at hlt
      subst hA
      have HFI := hide hfi
      have hlb := HFL.out f (List.mem_of_getElem? hfi)
      have HI5 := hide hI5
      obtain ⟨m5, hm5⟩ : ∃ n, n = f.ls.length := ⟨_, rfl⟩
      rw [← hm5] at q2 hlb HI5
      have HM5 := hide hm5
      clear hfi hI5 hFr hm5
      have hjs : (j : Int) < (n1 : Int) := by omega
      have hw64 : IntKind.i64.wrap (j : Int) = (j : Int) := by rw [IntKind.wrap_i64]; omega
      go_upto_region 6 with fail
      obtain ⟨w5, hw5⟩ : ∃ W, W = wr.alloc (.cells #[.int .i64 f.ino, .int .i64 f.ver, .slice A5 m5 c5] 92) := ⟨_, rfl⟩
      have S5 : Hid (w5.heap.size = wr.heap.size + 1) := hide (by rw [hw5]; simp)
      have X5 : Hid (Blk w5 wr.heap.size 92 #[.int .i64 f.ino, .int .i64 f.ver, .slice A5 m5 c5]) := hide (by rw [hw5]; exact Blk.new _ _ _)
      have R5 : Hid (FRow w.heap.size w5 A j d (fs.take j)) := hide (by rw [hw5]; exact HR.out.alloc _)
      have KT5 : Hid (Kt [92] w.heap.size w4 w5) := hide (by rw [hw5]; exact HK.out.alloc _)
      have B5 : Hid (Below w.heap.size w w5) := hide (B4.out.trans (KT5.out.below B4.out.size))
      have I5 : Hid (IntsAt lo base w5 A5 m5 f.ls) := hide (by rw [hw5]; exact RwAt.below HI5.out ((Below.refl _ _).alloc (Nat.le_refl _) _))
      rw [← hw5]
      clear hw5
      have x2 := (X5.out.alloc (.cells #[] 3)).cell 2
      simp only [List.getElem?_toArray, List.getElem?_cons_succ, List.getElem?_cons_zero] at x2
      have LT5 := hide R5.out.lt
      go_upto_region 7 with (
        at_builtin
        refine wpList_app _ rfl (.tmp 18) (.tmp 20) _ rfl etyJ w.heap.size (.slice (some ⟨w5.heap.size, 0, none⟩) 0 0) 0 [] rfl (own_nw B5.out.size) _ A5 m5 c5 (intC f.ls) rfl (RwAt.below I5.out ((Below.refl _ _).alloc (Nat.le_refl _) _)).sl (intC_one _) (by omega) (Nat.le_trans B5.out.size (by simp)) ?_
        intro A6 c6 w6 hown hg hnew
        have K6 : Hid (Kt [92] w.heap.size w5 w6) := hide (Kt.of_below (bel_gr ((Below.refl w5.heap.size w5).alloc (Nat.le_refl _) (.cells #[] 3)) hg (fun g hg => by simp [Value.ownBlock] at hg; omega) (by simp)))
        have BB6 : Hid (Below w5.heap.size w5 w6) := hide (bel_gr ((Below.refl w5.heap.size w5).alloc (Nat.le_refl _) (.cells #[] 3)) hg (fun g hg => by simp [Value.ownBlock] at hg; omega) (by simp))
        have X6 := hide (X5.out.below BB6.out)
        have R6 := hide (R5.out.below BB6.out)
        have I6 : Hid (IntsAt w.heap.size w.heap.size w6 A6 m5 f.ls) := hide (by have := RwAt.of_own (base := w.heap.size) hown; simpa using this)
        have f2 := X6.out.frozen 2
        have y2 := X6.out.cell 2
        simp only [List.getElem?_toArray, List.getElem?_cons_succ, List.getElem?_cons_zero] at y2
        clear hown hg hnew)
      try simp only [Nat.zero_add]
      have BX := hide (HB.out.size)
      obtain ⟨w7, hw7⟩ : ∃ W, W = w6.setCell ⟨wr.heap.size, 2, none⟩ (.slice A6 m5 c6) := ⟨_, rfl⟩
      have KS : Hid (Kt [92] w.heap.size w6 w7) := hide (by rw [hw7]; exact (Kt.refl _ _ _).set (p := ⟨wr.heap.size, 2, none⟩) (.inl ⟨BX.out, fun t cs hB => by simp [(Blk.type hB X6.out).1]⟩) _)
      have X7 : Hid (Blk w7 wr.heap.size 92 #[.int .i64 f.ino, .int .i64 f.ver, .slice A6 m5 c6]) := hide (by rw [hw7]; exact X6.out.set 2 _)
      have R7 : Hid (FRow w.heap.size w7 A j d (fs.take j)) := hide (by
        rw [hw7]
        exact R6.out.far2 (p := ⟨wr.heap.size, 2, none⟩) X6.out BX.out (by decide) (fun g hg => by have := (HR.out.lt g hg).2; show g ≠ wr.heap.size; omega) _)
      have I7 : Hid (IntsAt w.heap.size w.heap.size w7 A6 m5 f.ls) := hide (RwAt.kt I6.out KS.out (by decide))
      have K7 := hide (KT5.out.trans (K6.out.trans KS.out))
      have B7 := hide (B4.out.trans (K7.out.below B4.out.size))
      rw [← hw7]
      clear hw7 x2 y2 f2 K6 KS X6 R6 I6 BB6
      have v0 := X7.out.cell 0
      have v1 := X7.out.cell 1
      have v2 := X7.out.cell 2
      simp only [List.getElem?_toArray, List.getElem?_cons_succ, List.getElem?_cons_zero] at v0 v1 v2
      go_wp2_with (
        at_builtin
        obtain ⟨cs, e1, e2, e3, e4⟩ := R7.out
        have HH := hide (And.intro e1 e2)
        have E4 := hide (fun (q : Nat) (y : List Value) (g : FI) (hx : cs[q]? = some y) (hg : (fs.take j)[q]? = some g) => (e4 q y g hx hg).kt (T := []) (Kt.of_below ((Below.refl w7.heap.size w7).alloc (Nat.le_refl _) (.cells #[.int .i64 f.ino, .int .i64 f.ver, .slice A6 m5 c6] 92))) (by simp))
        have E3 := hide (own_bel e3 ((Below.refl w7.heap.size w7).alloc (Nat.le_refl _) (.cells #[.int .i64 f.ino, .int .i64 f.ver, .slice A6 m5 c6] 92)))
        clear e1 e2 e3 e4
        refine wpList_appK rfl (.tmp 23) (.tmp 25) _ rfl etyF w.heap.size (.slice A j d) j cs.flatten rfl E3.out (w7.heap.size + 1) (some ⟨w7.heap.size, 0, none⟩) 1 1 [.int .i64 f.ino, .int .i64 f.ver, .slice A6 m5 c6] rfl (slc_new w7 [.int .i64 f.ino, .int .i64 f.ver, .slice A6 m5 c6] _ rfl) (by intro u hu; simp only [List.mem_cons, List.not_mem_nil, or_false] at hu; rcases hu with rfl | rfl | rfl <;> rfl) (by omega) (Nat.le_trans B7.out.size (by simp)) ?_
        intro A8 c8 w8 hown hg hnew
        have R8 : Hid (FRow w.heap.size w8 A8 (j + 1) c8 (fs.take (j + 1))) := hide (by
          have hF8 : FiC w.heap.size w.heap.size (w7.alloc (.cells #[.int .i64 f.ino, .int .i64 f.ver, .slice A6 m5 c6] 92)) [.int .i64 f.ino, .int .i64 f.ver, .slice A6 m5 c6] f := ⟨A6, c6, by unfold fiV; rw [← HM5.out], by rw [← HM5.out]; exact RwAt.below I7.out ((Below.refl _ _).alloc (Nat.le_refl _) _)⟩
          rw [List.take_add_one, HFI.out]
          exact FRow.app (gs := [f]) (ds := [[.int .i64 f.ino, .int .i64 f.ver, .slice A6 m5 c6]]) HH.out.1 HH.out.2 E3.out E4.out rfl rfl (fun q y g hy hg => by
            cases q with
            | zero =>
              simp only [List.getElem?_cons_zero, Option.some.injEq] at hy hg
              subst hy hg
              exact hF8
            | succ q => simp at hy) rfl (by simpa using hown) hg)
        have K8 := hide (K7.out.trans ((Kt.of_below ((Below.refl w7.heap.size w7).alloc (Nat.le_refl _) (.cells #[.int .i64 f.ino, .int .i64 f.ver, .slice A6 m5 c6] 92))).trans (Kt.gr (T := [92]) hg (fun g hg => by
          obtain ⟨hb, cs', hB⟩ := FRow.blk ⟨cs, HH.out.1, HH.out.2, E3.out, E4.out⟩ hg
          exact ⟨hb, _, cs', hB, by simp⟩))))
        clear hown hg hnew)
      go_roundw
      case rel => exact ⟨j + 1, A8, c8, by omega, by go_num, rfl, R8.out, K8.out⟩
      case measure => simp [intOf]; omega
    · have hjn : j = n1 := by omega
      have X9 := hide (K4.out.kt HK.out (by decide))
      have Z9 := hide (R4.out.kt HK.out (by decide))
      have I9 := hide (RwAt.kt I4.out HK.out (by decide))
      have F9 : Hid (FisAt w.heap.size w.heap.size wr A j fs) := hide (by
        have := HR.out.fis
        rw [hjn, List.take_of_length_le (by rw [HL1.out]; exact Nat.le_refl _)] at this
        rw [hjn]
        exact this)
      have f5 := X9.out.frozen 5
      have z5 := X9.out.cell 5
      simp only [List.getElem?_toArray, List.getElem?_cons_succ, List.getElem?_cons_zero] at z5
      have HJ := hide hjn
      clear hjn
      go_upto_region 10 with fail
      obtain ⟨w5, hw5⟩ : ∃ W, W = wr.setCell ⟨w.heap.size, 5, none⟩ (.slice A j d) := ⟨_, rfl⟩
      have KS : Hid (Kt [25] w.heap.size wr w5) := hide (by rw [hw5]; exact (Kt.refl _ _ _).set (p := ⟨w.heap.size, 5, none⟩) (.inl ⟨Nat.le_refl _, fun t cs hB => by simp [(Blk.type hB X9.out).1]⟩) _)
      have Y5 : Hid (Blk w5 w.heap.size 25 #[.int .i64 e, .int .i64 c, .int .i64 i, .int .i64 p, .int .i64 x, .slice A j d, .slice A3 n2 c3]) := hide (by rw [hw5]; exact X9.out.set 5 _)
      have Z5 : Hid (Blk w5 (w.heap.size + 1) 25 #[.int .i64 0, .int .i64 0, .int .i64 0, .int .i64 0, .int .i64 0, .slice none 0 0, .slice none 0 0]) := hide (by rw [hw5]; exact Z9.out.far (p := ⟨w.heap.size, 5, none⟩) (by show w.heap.size + 1 ≠ w.heap.size; omega) _)
      have I5 := hide (RwAt.kt I9.out KS.out (by decide))
      have F5 := hide (F9.out.kt KS.out (by decide) (by decide))
      have B5 := hide (HB.out.trans (KS.out.below HB.out.size))
      rw [← hw5]
      clear hw5 z5 f5
      have y0 := Y5.out.cell 0
      have y1 := Y5.out.cell 1
      have y2 := Y5.out.cell 2
      have y3 := Y5.out.cell 3
      have y4 := Y5.out.cell 4
      have y5 := Y5.out.cell 5
      have y6 := Y5.out.cell 6
      have s0 := Z5.out.cell 0
      have s1 := Z5.out.cell 1
      have s2 := Z5.out.cell 2
      have s3 := Z5.out.cell 3
      have s4 := Z5.out.cell 4
      have s5 := Z5.out.cell 5
      have s6 := Z5.out.cell 6
      have t0 := Z5.out.frozen 0
      have t1 := Z5.out.frozen 1
      have t2 := Z5.out.frozen 2
      have t3 := Z5.out.frozen 3
      have t4 := Z5.out.frozen 4
      have t5 := Z5.out.frozen 5
      have t6 := Z5.out.frozen 6
      simp only [List.getElem?_toArray, List.getElem?_cons_succ, List.getElem?_cons_zero] at y0 y1 y2 y3 y4 y5 y6 s0 s1 s2 s3 s4 s5 s6
      go_wp2_with fail
      have KF := (((((((Z5.out.set 0 (.int .i64 e)).set 1 (.int .i64 c)).set 2 (.int .i64 i)).set 3 (.int .i64 p)).set 4 (.int .i64 x)).set 5 (.slice A j d)).set 6 (.slice A3 n2 c3))
      simp only [List.setIfInBounds_toArray, List.set_cons_zero, List.set_cons_succ] at KF
      have hZ : ∀ (W : World) (q : Nat) (u : Value), (∃ cs, Blk W (w.heap.size + 1) 25 cs) → Kt [25] w.heap.size W (W.setCell ⟨w.heap.size + 1, q, none⟩ u) ∧ ∃ cs, Blk (W.setCell ⟨w.heap.size + 1, q, none⟩ u) (w.heap.size + 1) 25 cs := fun W q u ⟨cs, h⟩ =>
        ⟨(Kt.refl _ _ _).set (p := ⟨w.heap.size + 1, q, none⟩) (.inl ⟨Nat.le_succ _, fun t cs' hB => by simp [(Blk.type hB h).1]⟩) _, _, h.set q u⟩
      obtain ⟨k0, h0⟩ := hZ w5 0 (.int .i64 e) ⟨_, Z5.out⟩
      obtain ⟨k1, h1⟩ := hZ _ 1 (.int .i64 c) h0
      obtain ⟨k2, h2⟩ := hZ _ 2 (.int .i64 i) h1
      obtain ⟨k3, h3⟩ := hZ _ 3 (.int .i64 p) h2
      obtain ⟨k4, h4⟩ := hZ _ 4 (.int .i64 x) h3
      obtain ⟨k5, h5⟩ := hZ _ 5 (.slice A j d) h4
      obtain ⟨k6, h6⟩ := hZ _ 6 (.slice A3 n2 c3) h5
      have KK := hide (((((((k0.trans k1).trans k2).trans k3).trans k4).trans k5).trans k6))
      refine bodyPost_ret (results_cell_row (g := w.heap.size + 1) (cs := #[.int .i64 e, .int .i64 c, .int .i64 i, .int .i64 p, .int .i64 x, .slice A j d, .slice A3 n2 c3]) (t := 25) (fr := (0, 0)) rfl _ _ (hp := rfl) (hg := KF) (hu := Tryd.underlying25) (hd := rfl) (hi := by kernel_rfl)) rfl ?_
      have F6 := F5.out.kt KK.out (by decide) (by decide)
      replace F6 := fis_num F6 HJ.out
      have hE : Ending.returned (Value.agg #[.int .i64 e, .int .i64 c, .int .i64 i, .int .i64 p, .int .i64 x, .slice A j d, .slice A3 n2 c3]) = Ending.returned (Value.agg #[.int .i64 e, .int .i64 c, .int .i64 i, .int .i64 p, .int .i64 x, .slice A n1 d, .slice A3 n2 c3]) := by rw [HJ.out]
      have I6 := RwAt.kt I5.out KK.out (by decide)
      have B6 := B5.out.trans (KK.out.below B5.out.size)
      exact ⟨A, d, A3, c3, hE, F6, I6, B6⟩
end Go.Proofs.YtlobkefacnedeaaDoor

/- What a good write says of its arguments. No program in sight. -/
namespace Go.Proofs.YtlobkefacnedeaaDoor
open Go.RowKit
set_option maxRecDepth 100000

/-- A write that is good: what its arguments were. -/
theorem wrS_zero {D : Dsk} {a : Int} {v : PV} {bs : List (List UInt8)} (h : (wrS D a v bs).1 = 0) : v.ck = 0 ∧ fitS D a v bs.length ∧ ∀ b ∈ bs, b.length = 64 := by
  unfold wrS at h
  split at h
  · rename_i h1; exact absurd h h1
  · rename_i h1
    split at h
    · cases h
    · rename_i h2
      split at h
      · cases h
      · rename_i h3
        refine ⟨by simpa using h1, by simpa using h2, fun b hb => ?_⟩
        rw [Bool.not_eq_true, List.any_eq_false] at h3
        have := h3 b hb
        simpa using this
theorem ck_x {v : PV} (h : v.ck = 0) : 0 ≤ v.x ∧ v.x ≤ 65535 := by
  obtain ⟨⟨⟨_, _, _, _, h⟩, _⟩, _⟩ := PV.gd h
  omega
/-- So it is read. -/
theorem wrS_read {D : Dsk} (hL : D.left < 0) (hq : ∀ x ∈ D.queue, x.1 < D.sure.length) {a : Nat} {v : PV} {bs : List (List UInt8)} (h : (wrS D (a : Int) v bs).1 = 0) : rdS (wrS D (a : Int) v bs).2 (a : Int) = (0, v, bs) := by
  obtain ⟨h1, h2, h3⟩ := wrS_zero h
  obtain ⟨x0, x1⟩ := ck_x h1
  have hv := PV.n_bd h1
  unfold fitS at h2
  obtain ⟨x, hx⟩ : ∃ x : Nat, v.x = (x : Int) := ⟨v.x.toNat, by omega⟩
  rw [hx] at h2
  obtain ⟨-, -, -, hr⟩ := wrS_ok hL hq (a := a) hx h1 (by omega) (by omega) (by omega) (by omega) h3
  refine rdS_wrS (D := D) (E := (wrS D (a : Int) v bs).2) h1 (by omega) (by rw [wrS_len]; omega) (by rw [hr, if_pos rfl]) (by rw [hr, if_neg (by omega), if_pos rfl]) (fun j hj => ?_)
  rw [hr, if_neg (by omega), if_neg (by omega), if_pos (by omega)]
  congr 1
  omega
/-- A write that is none leaves the disk as it was, if nothing hinders. -/
theorem wrS_bad {D : Dsk} (hL : D.left < 0) (hq : ∀ x ∈ D.queue, x.1 < D.sure.length) {a : Int} {v : PV} {bs : List (List UInt8)} (h : (wrS D a v bs).1 ≠ 0) : (wrS D a v bs).2 = D := by
  by_cases h1 : v.ck = 0
  · by_cases h2 : fitS D a v bs.length
    · by_cases h3 : bs.any (fun b => b.length ≠ 64)
      · unfold wrS
        rw [if_neg (by rw [h1]; decide), if_neg (fun h => h h2), if_pos h3]
      · exfalso
        apply h
        obtain ⟨x0, x1⟩ := ck_x h1
        have hv := PV.n_bd h1
        unfold fitS at h2
        obtain ⟨k, rfl⟩ : ∃ k : Nat, a = (k : Int) := ⟨a.toNat, by omega⟩
        obtain ⟨x, hx⟩ : ∃ x : Nat, v.x = (x : Int) := ⟨v.x.toNat, by omega⟩
        rw [hx] at h2
        refine (wrS_ok hL hq (a := k) hx h1 (by omega) (by omega) (by omega) (by omega) (fun b hb => ?_)).1
        rw [Bool.not_eq_true, List.any_eq_false] at h3
        have := h3 b hb
        simpa using this
    · unfold wrS
      rw [if_neg (by rw [h1]; decide), if_pos h2]
  · unfold wrS
    rw [if_pos h1]
end Go.Proofs.YtlobkefacnedeaaDoor

/- The two disks side by side; lists of pieces that came in. -/
namespace Go.Proofs.YtlobkefacnedeaaDoor
open Go.RowKit
set_option maxRecDepth 100000

theorem LD.kt {w0 w w' : World} {d : Nat} {D : Dsk} {T : List TypeId} (h : LD w0 w d D) (hk : Kt T w0.heap.size w w') (h1 : 96 ∉ T) (h2 : 122 ∉ T) (h3 : 124 ∉ T) : LD w0 w' d D := by
  obtain ⟨s, v, hD⟩ := h.ex
  exact ⟨⟨s, v, ⟨hD.hd.kt hk h1, hD.hs.kt hk h2, own_ktR hD.hq hk h3, hD.ne, hD.nq, hD.db, hD.sb, hD.ok⟩⟩, h.bel.trans (hk.below h.bel.size)⟩
theorem RefM.kt {w w' : World} {base b cs cq : Nat} {As Aq : Option Addr} {D : Dsk} {T : List TypeId} (h : RefM w base As cs Aq cq D) (hk : Kt T b w w') (h1 : 9 ∉ T) (h2 : 110 ∉ T) : RefM w' base As cs Aq cq D :=
  ⟨own_ktR h.s hk h1, own_ktR h.q hk h2, h.ok⟩
theorem RefM.dn {w : World} {base base' cs cq : Nat} {As Aq : Option Addr} {D : Dsk} (h : RefM w base As cs Aq cq D) (hb : base' ≤ base) : RefM w base' As cs Aq cq D := ⟨own_bq h.s hb, own_bq h.q hb, h.ok⟩
/-- A write leaves a disk that isn't armed as one, with an empty queue. -/
theorem wrS_go {D : Dsk} (hL : D.left < 0) (hQ : D.queue = []) (a : Int) (v : PV) (bs : List (List UInt8)) : (wrS D a v bs).2.left < 0 ∧ (wrS D a v bs).2.queue = [] := by
  by_cases h : (wrS D a v bs).1 = 0
  · obtain ⟨h1, h2, h3⟩ := wrS_zero h
    obtain ⟨x0, x1⟩ := ck_x h1
    have hv := PV.n_bd h1
    unfold fitS at h2
    obtain ⟨k, rfl⟩ : ∃ k : Nat, a = (k : Int) := ⟨a.toNat, by omega⟩
    obtain ⟨x, hx⟩ : ∃ x : Nat, v.x = (x : Int) := ⟨v.x.toNat, by omega⟩
    rw [hx] at h2
    obtain ⟨-, k2, k3, -⟩ := wrS_ok hL (by rw [hQ]; simp) (a := k) hx h1 (by omega) (by omega) (by omega) (by omega) h3
    exact ⟨k2, k3⟩
  · have e : (wrS D a v bs).2 = D := wrS_bad hL (by rw [hQ]; simp) h
    rw [e]
    exact ⟨hL, hQ⟩
theorem RwAt.bx {lo k n : Nat} {t : TypeId} {w w' : World} {A : Option Addr} {xs : List Value} (h : RwAt lo w.heap.size t k w A n xs) (hb : Below w.heap.size w w') : RwAt lo w.heap.size t k w' A n xs := RwAt.below h hb
theorem FisAt.bx {lo n : Nat} {w w' : World} {A : Option Addr} {fs : List FI} (h : FisAt lo w.heap.size w A n fs) (hb : Below w.heap.size w w') : FisAt lo w.heap.size w' A n fs := h.below hb
theorem RwAt.dnW {lo base lo' base' k n : Nat} {t : TypeId} {w : World} {A : Option Addr} {xs : List Value} (h : RwAt lo base t k w A n xs) (hb : base ≤ lo) (hl : lo' ≤ lo) : RwAt lo' base' t k w A n xs :=
  ⟨h.len, fun j u hu => by
    obtain ⟨b, off, e, ⟨h1, h2, h3⟩, hc⟩ := h.cells j u hu
    exact ⟨b, off, e, ⟨Nat.le_trans hl h1, h2, .inr (h3.resolve_left (by omega))⟩, hc⟩⟩
theorem FisAt.dnW {lo base lo' base' n : Nat} {w : World} {A : Option Addr} {fs : List FI} (h : FisAt lo base w A n fs) (hb : base ≤ lo) (hl : lo' ≤ lo) : FisAt lo' base' w A n fs := by
  obtain ⟨cs, h1, h2, h3, h4⟩ := h
  refine ⟨cs, h1, h2, h3.dnW hb hl, fun j x f hx hf => ?_⟩
  obtain ⟨A, c, e, h5⟩ := h4 j x f hx hf
  exact ⟨A, c, e, RwAt.dnW h5 hb hl⟩
theorem andS_bdW (r : Int × Dsk) (f : Dsk → Int × Dsk) (k q : Nat) (h : ∀ D, (f D).2.steps ≤ D.steps + k ∧ (f D).2.queue.length ≤ D.queue.length + q) : (andS r f).2.steps ≤ r.2.steps + k ∧ (andS r f).2.queue.length ≤ r.2.queue.length + q := by
  unfold andS
  split
  · exact h _
  · omega
theorem wrS_bdW (D : Dsk) (a : Int) (v : PV) (bs : List (List UInt8)) : (wrS D a v bs).2.steps ≤ D.steps + bs.length + 6 ∧ (wrS D a v bs).2.queue.length ≤ D.queue.length + bs.length + 4 := by
  unfold wrS
  split
  · exact ⟨by show D.steps ≤ _; omega, by show D.queue.length ≤ _; omega⟩
  · split
    · exact ⟨by show D.steps ≤ _; omega, by show D.queue.length ≤ _; omega⟩
    · split
      · exact ⟨by show D.steps ≤ _; omega, by show D.queue.length ≤ _; omega⟩
      · have h1 := putS_bd bs D (a.toNat + 2)
        have h2 := andS_bdW (putS D (a.toNat + 2) bs) (fun D => andS (clrS D v.x) fun D => andS (putS D a.toNat [(v.enc (crc bs.flatten)).take 64, (v.enc (crc bs.flatten)).drop 64]) barS) 6 4 (fun D => by
          have h3 := clrS_bd D v.x
          have h4 := andS_bdW (clrS D v.x) (fun D => andS (putS D a.toNat [(v.enc (crc bs.flatten)).take 64, (v.enc (crc bs.flatten)).drop 64]) barS) 3 2 (fun D => by
            have h5 := putS_bd [(v.enc (crc bs.flatten)).take 64, (v.enc (crc bs.flatten)).drop 64] D a.toNat
            have h6 := andS_bdW (putS D a.toNat [(v.enc (crc bs.flatten)).take 64, (v.enc (crc bs.flatten)).drop 64]) barS 1 0 (fun D => barS_bd D)
            simp only [List.length_cons, List.length_nil] at h5
            omega)
          omega)
        omega
/-- A piece: its cells, and what its lists hold. -/
structure PcI (w : World) (b off : Nat) (p : Int × PV × List UInt8) (A1 : Option Addr) (n1 c1 : Nat) (A2 : Option Addr) (n2 c2 : Nat) (A3 : Option Addr) (m c3 : Nat) : Prop where
  lt : b < w.heap.size
  cell : ∀ (t : Nat) (u : Value), (rfC p.1 p.2.1 A1 n1 c1 A2 n2 c2 A3 m c3)[t]? = some u → w.cell? ⟨b, off + t, none⟩ = some u
  a64 : I64 p.1
  f : FisAt 0 w.heap.size w A1 n1 p.2.1.fs
  i : IntsAt 0 w.heap.size w A2 n2 p.2.1.is
  d : By w w.heap.size A3 m p.2.2
  hc : m ≤ c3
  h1 : n1 ≤ 9223372036854775807
  h2 : n2 ≤ 9223372036854775807
  h3 : m ≤ 9223372036854775807
  hl : ∀ f ∈ p.2.1.fs, (∀ x ∈ f.ls, I64 x) ∧ f.ls.length ≤ 9223372036854775807
theorem PcI.below {w w' : World} {b off : Nat} {p : Int × PV × List UInt8} {A1 A2 A3 : Option Addr} {n1 c1 n2 c2 m c3 : Nat} (h : PcI w b off p A1 n1 c1 A2 n2 c2 A3 m c3) (hb : Below w.heap.size w w') : PcI w' b off p A1 n1 c1 A2 n2 c2 A3 m c3 :=
  ⟨Nat.lt_of_lt_of_le h.lt hb.size, fun t u hu => (hb.cell (p := ⟨b, off + t, none⟩) h.lt).trans (h.cell t u hu), h.a64, (h.f.below hb).base_ hb.size, (RwAt.below h.i hb).base_ hb.size, (Sl.below h.d hb).more hb.size, h.hc, h.h1, h.h2, h.h3, h.hl⟩
/-- A slice of pieces. -/
def PcsAt (w : World) (A : Option Addr) (m : Nat) (ps : List (Int × PV × List UInt8)) : Prop :=
  ps.length = m ∧ ∀ (j : Nat) (p : Int × PV × List UInt8), ps[j]? = some p → ∃ b off A1 n1 c1 A2 n2 c2 A3 m3 c3, A = some ⟨b, off, none⟩ ∧ PcI w b (off + j * 9) p A1 n1 c1 A2 n2 c2 A3 m3 c3
theorem PcsAt.below {w w' : World} {A : Option Addr} {m : Nat} {ps : List (Int × PV × List UInt8)} (h : PcsAt w A m ps) (hb : Below w.heap.size w w') : PcsAt w' A m ps :=
  ⟨h.1, fun j p hp => by
    obtain ⟨b, off, A1, n1, c1, A2, n2, c2, A3, m3, c3, e, hi⟩ := h.2 j p hp
    exact ⟨b, off, A1, n1, c1, A2, n2, c2, A3, m3, c3, e, hi.below hb⟩⟩
end Go.Proofs.YtlobkefacnedeaaDoor

/- The walks over Ints and Tells. -/
namespace Go.Proofs.YtlobkefacnedeaaDoor
open Go.RowKit
set_option maxRecDepth 100000
attribute [local go_sem ↓] Go.wp_at_zero Go.wp_at_succ

theorem sl_int {w : World} {B n : Nat} {A : Option Addr} {l : List Nat} (h : Sl w B A n (atC l)) {j : Nat} (hj : j < n) : ∃ ad x, A = some ad ∧ l[j]? = some x ∧ w.cell? (ad.add j) = some (.int .i64 (x : Int)) := by
  obtain ⟨ad, u, hA, -, hu, hc⟩ := h.get hj
  have hl := h.len
  simp only [atC, List.length_map] at hl
  have hx : l[j]? = some (l[j]'(by omega)) := List.getElem?_eq_getElem _
  refine ⟨ad, _, hA, hx, ?_⟩
  simp only [atC, List.getElem?_map, hx, Option.map_some, Option.some.injEq] at hu
  rw [hc, ← hu]
set_option maxHeartbeats 400000 in
theorem ints_same (A A' : Option Addr) (n c c' B B' : Nat) (l : List Nat) (w : World) (h : Sl w B A n (atC l)) (h' : Sl w B' A' n (atC l)) (hB : B ≤ w.heap.size) (hB' : B' ≤ w.heap.size) (hn : n ≤ 1000000) :
    Calls Tryd.prog 47 #[.slice A n c, .slice A' n c'] w fun e w' => e = .returned (.bool true) ∧ Below w.heap.size w w' := by
  have H := hide h
  have H' := hide h'
  clear h h'
  go_enter Tryd.func47, Tryd.ntmps47
  go_wp2_with fail
  go_loopw [13] (fun x wr => ∃ j : Nat, j ≤ n ∧ x = .int .i64 (j : Int) ∧ Below w.heap.size w wr) (fun x _ => n - (intOf x).toNat)
  case atStart => exact ⟨0, Nat.zero_le _, rfl, Below.refl _ _⟩
  case round =>
    obtain ⟨j, hj, rfl, hb⟩ := hrel
    have Hb := hide hb
    clear hb
    by_cases hlt : j < n
    · obtain ⟨ad, x, hA, hx, hc⟩ := sl_int (H.out.below (Hb.out.mono hB)) hlt
      obtain ⟨ad', x', hA', hx', hc'⟩ := sl_int (H'.out.below (Hb.out.mono hB')) hlt
      rw [hx] at hx'
      injection hx' with hx'
      subst hx' hA hA'
      clear hx
      go_wp2_with fail
      refine wp_region_noPanic ?_
      refine wp_region_held_drew (S := (fun w' => w'.cell? (ad.add j) = some (.int .i64 (x : Int)) ∧ w'.cell? (ad'.add j) = some (.int .i64 (x : Int)))) (by kernel_rfl) ?_ (fun hHeld => ?_)
      · ((try dsimp only) <;> (first | trivial | assumption | go_keep))
      refine wpAnyH_take (i := 0) (v := ?_) (by simp only [List.getElem?_toArray, List.getElem?_cons_succ, List.getElem?_cons_zero]; rfl) (by kernel_rfl) (by kernel_rfl) (by kernel_rfl) (fun _ _ _ h => h) (Or.inl ⟨by rfl, ?_⟩) (by assumption) ?_
      rotate_left 1
      · (intro w hSw; (try dsimp only at hSw); go_simp; try with_reducible rfl)
      try simp only [Act.put, List.setIfInBounds_toArray, List.set_cons_zero, List.set_cons_succ]
      refine wpAnyH_take (i := 1) (v := ?_) (by simp only [List.getElem?_toArray, List.getElem?_cons_succ, List.getElem?_cons_zero]; rfl) (by kernel_rfl) (by kernel_rfl) (by kernel_rfl) (fun _ _ _ h => h) (Or.inl ⟨by rfl, ?_⟩) (by assumption) ?_
      rotate_left 1
      · (intro w hSw; (try dsimp only at hSw); go_simp; try with_reducible rfl)
      try simp only [Act.put, List.setIfInBounds_toArray, List.set_cons_zero, List.set_cons_succ]
      refine wpAnyH_take (i := 2) (v := ?_) (by simp only [List.getElem?_toArray, List.getElem?_cons_succ, List.getElem?_cons_zero]; rfl) (by kernel_rfl) (by kernel_rfl) (by kernel_rfl) (fun _ _ _ h => h) (Or.inl ⟨by rfl, ?_⟩) (by assumption) ?_
      rotate_left 1
      · (intro w hSw; (try dsimp only at hSw); go_simp; try with_reducible rfl)
      try simp only [Act.put, List.setIfInBounds_toArray, List.set_cons_zero, List.set_cons_succ]
      refine wpAnyH_take (i := 3) (v := ?_) (by simp only [List.getElem?_toArray, List.getElem?_cons_succ, List.getElem?_cons_zero]; rfl) (by kernel_rfl) (by kernel_rfl) (by kernel_rfl) (fun _ _ _ h => h) (Or.inl ⟨by rfl, ?_⟩) (by assumption) ?_
      rotate_left 1
      · (intro w hSw; (try dsimp only at hSw); go_simp; try with_reducible rfl)
      try simp only [Act.put, List.setIfInBounds_toArray, List.set_cons_zero, List.set_cons_succ]
      refine wpAnyH_take (i := 4) (v := ?_) (by simp only [List.getElem?_toArray, List.getElem?_cons_succ, List.getElem?_cons_zero]; rfl) (by kernel_rfl) (by kernel_rfl) (by kernel_rfl) (fun _ _ _ h => h) (Or.inl ⟨by rfl, ?_⟩) (by assumption) ?_
      rotate_left 1
      · (intro w hSw; (try dsimp only at hSw); go_simp; try with_reducible rfl)
      try simp only [Act.put, List.setIfInBounds_toArray, List.set_cons_zero, List.set_cons_succ]
      refine wpAnyH_take (i := 5) (v := ?_) (by simp only [List.getElem?_toArray, List.getElem?_cons_succ, List.getElem?_cons_zero]; rfl) (by kernel_rfl) (by kernel_rfl) (by kernel_rfl) (fun _ _ _ h => h) (Or.inl ⟨by rfl, ?_⟩) (by assumption) ?_
      rotate_left 1
      · (intro w hSw; (try dsimp only at hSw); go_simp; try with_reducible rfl)
      try simp only [Act.put, List.setIfInBounds_toArray, List.set_cons_zero, List.set_cons_succ]
      refine wpAnyH_take (i := 6) (v := ?_) (by simp only [List.getElem?_toArray, List.getElem?_cons_succ, List.getElem?_cons_zero]; rfl) (by kernel_rfl) (by kernel_rfl) (by kernel_rfl) (fun _ _ _ h => h) (Or.inl ⟨by rfl, ?_⟩) (by assumption) ?_
      rotate_left 1
      · (intro w hSw; (try dsimp only at hSw); go_simp; try with_reducible rfl)
      try simp only [Act.put, List.setIfInBounds_toArray, List.set_cons_zero, List.set_cons_succ]
      refine wpAnyH_take (i := 7) (v := ?_) (by simp only [List.getElem?_toArray, List.getElem?_cons_succ, List.getElem?_cons_zero]; rfl) (by kernel_rfl) (by kernel_rfl) (by kernel_rfl) (fun _ _ _ h => h) (Or.inl ⟨by rfl, ?_⟩) (by assumption) ?_
      rotate_left 1
      · (intro w hSw; (try dsimp only at hSw); go_simp; try with_reducible rfl)
      try simp only [Act.put, List.setIfInBounds_toArray, List.set_cons_zero, List.set_cons_succ]
      refine wpAnyH_take (i := 8) (v := ?_) (by simp only [List.getElem?_toArray, List.getElem?_cons_succ, List.getElem?_cons_zero]; rfl) (by kernel_rfl) (by kernel_rfl) (by kernel_rfl) (fun _ _ _ h => h) (Or.inl ⟨by rfl, ?_⟩) (by assumption) ?_
      rotate_left 1
      · (intro w hSw; (try dsimp only at hSw); go_simp; try with_reducible rfl)
      try simp only [Act.put, List.setIfInBounds_toArray, List.set_cons_zero, List.set_cons_succ]
      refine wpAnyH_done (by kernel_rfl) ?_ _
      refine NoPanic.normal ?_
      go_wp2_with fail
      go_roundw
      case rel => exact ⟨j + 1, by omega, by go_num, Hb.out.drew⟩
      case measure => simp [intOf]; omega
    · go_wp2_with fail
      go_ret
      exact ⟨rfl, Hb.out⟩

set_option maxHeartbeats 1000000 in
theorem tells_any {w0 : World} (w : World) (d : Nat) (D : Dsk) (base : Nat) (As : Option Addr) (cs : Nat) (Aq : Option Addr) (cq : Nat) (hD : LD w0 w d D) (h : RefM w base As cs Aq cq D) :
    Calls Tryd.prog 19 #[.pointer (some ⟨d, 0, none⟩), .agg (refV As cs Aq cq D)] w fun e w' => e = .returned (.bool true) ∧ Below w.heap.size w w' := by
  obtain ⟨cv, hcv⟩ := cv_ex Tryd.prog 26 9
  have hn := h.ok.n
  have hqn := h.ok.qn
  have H := hide h
  have HD := hide hD
  clear h hD
  have hV : refV As cs Aq cq D = #[.slice As D.sure.length cs, .slice Aq D.queue.length cq, .int .i64 (D.steps : Int), .int .i64 D.left] := rfl
  have K1 := hide (Blk.new w 51 #[.slice As D.sure.length cs, .slice Aq D.queue.length cq, .int .i64 (D.steps : Int), .int .i64 D.left])
  have Kb := hide ((Below.refl w.heap.size w).alloc (Nat.le_refl _) (.cells #[.slice As D.sure.length cs, .slice Aq D.queue.length cq, .int .i64 (D.steps : Int), .int .i64 D.left] 51))
  rw [hV]
  replace hV := hide hV
  go_enter Tryd.func19, Tryd.ntmps19
  go_wp2_with fail
  generalize w.alloc (.cells #[.slice As D.sure.length cs, .slice Aq D.queue.length cq, .int .i64 (D.steps : Int), .int .i64 D.left] 51) = w1 at *
  go_loopw [5, 13] (fun x y wr => ∃ j A' c', j ≤ D.queue.length ∧ x = .slice A' j c' ∧ y = .int .i64 (j : Int) ∧ wr.ownsRow (w.heap.size + 1) 3 1 (.slice A' j c') j (atC ((D.queue.map (·.1)).take j)) ∧ Below (w.heap.size + 1) w1 wr) (fun _ y _ => D.queue.length - (intOf y).toNat)
  case atStart => exact ⟨0, none, 0, Nat.zero_le _, rfl, rfl, by simpa [atC] using World.ownsRow_nil _ _ 3 1, Below.refl _ _⟩
  case round =>
    obtain ⟨j, A', c', hj, rfl, rfl, h1, h2⟩ := hrel
    have H1 := hide h1
    have H2 := hide h2
    have hs1 : w.heap.size + 1 ≤ w1.heap.size := K1.out.lt
    have hsz := hide (Nat.le_trans hs1 h2.size)
    have K2 := hide (show Blk wr w.heap.size 51 #[.slice As D.sure.length cs, .slice Aq D.queue.length cq, .int .i64 (D.steps : Int), .int .i64 D.left] from (h2.block _ (Nat.lt_succ_self _)).trans K1.out)
    have Kb2 := hide (Kb.out.trans (h2.mono (Nat.le_succ _)))
    clear h1 h2
    by_cases hlt : j < D.queue.length
    · obtain ⟨x, hx⟩ : ∃ x, D.queue[j]? = some x := ⟨_, List.getElem?_eq_getElem hlt⟩
      obtain ⟨gq, hAq, q1, q2⟩ := (H.out.below Kb2.out).atQ j x hx
      have S1 : wr.cell? ⟨w.heap.size, 1, none⟩ = some (.slice Aq D.queue.length cq) := K2.out.cell 1
      have k6 := in_slice wr x.1
      have hst : Hid ((D.queue.map (·.1)).take (j + 1) = (D.queue.map (·.1)).take j ++ [x.1]) := by
        rw [List.take_add_one, List.getElem?_map, hx]; simp [Hid]
      have hb3 := hide (H2.out.alloc hsz.out (.cells #[.int .i64 (x.1 : Int)] 3))
      have hownW := hide (own_keep H1.out ((Below.refl _ _).alloc (Nat.le_refl _) (.cells #[.int .i64 (x.1 : Int)] 3)))
      have hnew : Hid (Sl (wr.alloc (.cells #[.int .i64 (x.1 : Int)] 3)) (wr.heap.size + 1) (some ⟨wr.heap.size, 0, none⟩) 1 [.int .i64 (x.1 : Int)]) := by
        refine hide ⟨rfl, fun i u hu => ⟨_, rfl, by simp, ?_⟩⟩
        rw [Addr.add_mid, Nat.zero_add, (Blk.new wr _ _).cell]
        simpa using hu
      subst hAq
      clear hx q2
      go_wp2_with (
        at_builtin
        refine wpList_app _ rfl (.tmp 16) (.tmp 23) _ rfl etyI (w.heap.size + 1) (.slice A' j c') j _ rfl hownW.out (wr.heap.size + 1) (some ⟨wr.heap.size, 0, none⟩) 1 1 [.int .i64 (x.1 : Int)] rfl
          hnew.out (by intro u hu; rw [List.mem_singleton] at hu; rw [hu]; rfl) (by omega) (Nat.le_trans hsz.out (by simp)) ?_
        intro A2 c2 w2 hown2 hg2 _
        have Hb2 := hide (bel_grow hb3.out hg2 (fun g hg => (hownW.out.lt g hg).1) (Nat.le_trans hsz.out (by simp)))
        rw [atC_app, ← hst.out] at hown2
        have Hown2 := hide hown2
        clear hg2 hown2)
      go_roundw
      case rel => exact ⟨j + 1, A2, c2, by omega, rfl, by go_num, Hown2.out, Hb2.out⟩
      case measure => simp [intOf]; omega
    · have hjn : j = D.queue.length := by omega
      subst hjn
      have HL : Hid (wr.ownsRow (w.heap.size + 1) 3 1 (.slice A' D.queue.length c') D.queue.length (atC (D.queue.map (·.1)))) := by
        have := H1.out
        rw [List.take_of_length_le (by simp)] at this
        exact hide this
      have HD1 := hide (HD.out.below Kb2.out)
      have S0 : wr.cell? ⟨w.heap.size, 0, none⟩ = some (.slice As D.sure.length cs) := K2.out.cell 0
      have S2 : wr.cell? ⟨w.heap.size, 2, none⟩ = some (.int .i64 (D.steps : Int)) := K2.out.cell 2
      clear H1 H2
      go_wp2_with fail
      refine wp_region_noPanic ?_
      refine wp_region_held_drew (S := (fun w' => w'.cell? ⟨w.heap.size, 0, none⟩ = some (.slice As D.sure.length cs) ∧ w'.cell? ⟨w.heap.size, 2, none⟩ = some (.int .i64 (D.steps : Int)))) (by kernel_rfl) ?_ (fun hHeld => ?_)
      · ((try dsimp only) <;> (first | trivial | assumption | go_keep))
      refine wpAnyH_take (i := 0) (v := ?_) (by simp only [List.getElem?_toArray, List.getElem?_cons_succ, List.getElem?_cons_zero]; rfl) (by kernel_rfl) (by kernel_rfl) (by kernel_rfl) (fun _ _ _ h => h) (Or.inl ⟨by rfl, ?_⟩) (by assumption) ?_
      rotate_left 1
      · (intro w hSw; (try dsimp only at hSw); go_simp; try with_reducible rfl)
      try simp only [Act.put, List.setIfInBounds_toArray, List.set_cons_zero, List.set_cons_succ]
      refine wpAnyH_take (i := 2) (v := ?_) (by simp only [List.getElem?_toArray, List.getElem?_cons_succ, List.getElem?_cons_zero]; rfl) (by kernel_rfl) (by kernel_rfl) (by kernel_rfl) (fun _ _ _ h => h) (Or.inl ⟨by rfl, ?_⟩) (by assumption) ?_
      rotate_left 1
      · (intro w hSw; (try dsimp only at hSw); go_simp; try with_reducible rfl)
      try simp only [Act.put, List.setIfInBounds_toArray, List.set_cons_zero, List.set_cons_succ]
      refine wpAnyH_take (i := 3) (v := ?_) (by simp only [List.getElem?_toArray, List.getElem?_cons_succ, List.getElem?_cons_zero]; rfl) (by kernel_rfl) (by kernel_rfl) (by kernel_rfl) (fun _ _ _ h => h) (Or.inl ⟨by rfl, ?_⟩) (by assumption) ?_
      rotate_left 1
      · (intro w hSw; (try dsimp only at hSw); go_simp; try with_reducible rfl)
      try simp only [Act.put, List.setIfInBounds_toArray, List.set_cons_zero, List.set_cons_succ]
      refine wpAnyH_take (i := 4) (v := ?_) (by simp only [List.getElem?_toArray, List.getElem?_cons_succ, List.getElem?_cons_zero]; rfl) (by kernel_rfl) (by kernel_rfl) (by kernel_rfl) (fun _ _ _ h => h) (Or.inl ⟨by rfl, ?_⟩) (by assumption) ?_
      rotate_left 1
      · (intro w hSw; (try dsimp only at hSw); go_simp; try with_reducible rfl)
      try simp only [Act.put, List.setIfInBounds_toArray, List.set_cons_zero, List.set_cons_succ]
      refine wpAnyH_ready (rs := [1]) (by kernel_rfl) (by simp) ?_
      refine AllReadyH.cons (by simp only [List.getElem?_toArray, List.getElem?_cons_succ, List.getElem?_cons_zero]; rfl) (fun K hK => ?_) ?_
      rotate_left 1
      · exact AllReadyH.nil
      go_simp
      refine (ld_size HD1.out.drew).mono ?_; rintro e w3 ⟨rfl, rfl⟩; go_wp2_with fail
      refine hK.out _ _ ?_ (fun hHeld2 => ?_)
      · ((try dsimp only) <;> (first | trivial | assumption | go_keep))
      clear hHeld
      have hHeld := hHeld2
      clear hHeld2 hK K
      try simp only [Act.put, List.setIfInBounds_toArray, List.set_cons_zero, List.set_cons_succ]
      refine wpAnyH_take (i := 5) (v := ?_) (by simp only [List.getElem?_toArray, List.getElem?_cons_succ, List.getElem?_cons_zero]; rfl) (by kernel_rfl) (by kernel_rfl) (by kernel_rfl) (fun _ _ _ h => h) (Or.inl ⟨by rfl, ?_⟩) (by assumption) ?_
      rotate_left 1
      · (intro w hSw; (try dsimp only at hSw); go_simp; try with_reducible rfl)
      try simp only [Act.put, List.setIfInBounds_toArray, List.set_cons_zero, List.set_cons_succ]
      refine wpAnyH_take (i := 6) (v := ?_) (by simp only [List.getElem?_toArray, List.getElem?_cons_succ, List.getElem?_cons_zero]; rfl) (by kernel_rfl) (by kernel_rfl) (by kernel_rfl) (fun _ _ _ h => h) (Or.inl ⟨by rfl, ?_⟩) (by assumption) ?_
      rotate_left 1
      · (intro w hSw; (try dsimp only at hSw); go_simp; try with_reducible rfl)
      try simp only [Act.put, List.setIfInBounds_toArray, List.set_cons_zero, List.set_cons_succ]
      refine wpAnyH_take (i := 7) (v := ?_) (by simp only [List.getElem?_toArray, List.getElem?_cons_succ, List.getElem?_cons_zero]; rfl) (by kernel_rfl) (by kernel_rfl) (by kernel_rfl) (fun _ _ _ h => h) (Or.inl ⟨by rfl, ?_⟩) (by assumption) ?_
      rotate_left 1
      · (intro w hSw; (try dsimp only at hSw); go_simp; try with_reducible rfl)
      try simp only [Act.put, List.setIfInBounds_toArray, List.set_cons_zero, List.set_cons_succ]
      refine wpAnyH_take (i := 9) (v := ?_) (by simp only [List.getElem?_toArray, List.getElem?_cons_succ, List.getElem?_cons_zero]; rfl) (by kernel_rfl) (by kernel_rfl) (by kernel_rfl) (fun _ _ _ h => h) (Or.inl ⟨by rfl, ?_⟩) (by assumption) ?_
      rotate_left 1
      · (intro w hSw; (try dsimp only at hSw); go_simp; try with_reducible rfl)
      try simp only [Act.put, List.setIfInBounds_toArray, List.set_cons_zero, List.set_cons_succ]
      refine wpAnyH_take (i := 10) (v := ?_) (by simp only [List.getElem?_toArray, List.getElem?_cons_succ, List.getElem?_cons_zero]; rfl) (by kernel_rfl) (by kernel_rfl) (by kernel_rfl) (fun _ _ _ h => h) (Or.inl ⟨by rfl, ?_⟩) (by assumption) ?_
      rotate_left 1
      · (intro w hSw; (try dsimp only at hSw); go_simp; try with_reducible rfl)
      try simp only [Act.put, List.setIfInBounds_toArray, List.set_cons_zero, List.set_cons_succ]
      refine wpAnyH_ready (rs := [8]) (by kernel_rfl) (by simp) ?_
      refine AllReadyH.cons (by simp only [List.getElem?_toArray, List.getElem?_cons_succ, List.getElem?_cons_zero]; rfl) (fun K hK => ?_) ?_
      rotate_left 1
      · exact AllReadyH.nil
      go_simp
      refine (ld_steps HD1.out.drew).mono ?_; rintro e w3 ⟨rfl, rfl⟩; go_wp2_with fail
      refine hK.out _ _ ?_ (fun hHeld2 => ?_)
      · ((try dsimp only) <;> (first | trivial | assumption | go_keep))
      clear hHeld
      have hHeld := hHeld2
      clear hHeld2 hK K
      try simp only [Act.put, List.setIfInBounds_toArray, List.set_cons_zero, List.set_cons_succ]
      refine wpAnyH_take (i := 11) (v := ?_) (by simp only [List.getElem?_toArray, List.getElem?_cons_succ, List.getElem?_cons_zero]; rfl) (by kernel_rfl) (by kernel_rfl) (by kernel_rfl) (fun _ _ _ h => h) (Or.inl ⟨by rfl, ?_⟩) (by assumption) ?_
      rotate_left 1
      · (intro w hSw; (try dsimp only at hSw); go_simp; try with_reducible rfl)
      try simp only [Act.put, List.setIfInBounds_toArray, List.set_cons_zero, List.set_cons_succ]
      refine wpAnyH_take (i := 12) (v := ?_) (by simp only [List.getElem?_toArray, List.getElem?_cons_succ, List.getElem?_cons_zero]; rfl) (by kernel_rfl) (by kernel_rfl) (by kernel_rfl) (fun _ _ _ h => h) (Or.inl ⟨by rfl, ?_⟩) (by assumption) ?_
      rotate_left 1
      · (intro w hSw; (try dsimp only at hSw); go_simp; try with_reducible rfl)
      try simp only [Act.put, List.setIfInBounds_toArray, List.set_cons_zero, List.set_cons_succ]
      refine wpAnyH_take (i := 13) (v := ?_) (by simp only [List.getElem?_toArray, List.getElem?_cons_succ, List.getElem?_cons_zero]; rfl) (by kernel_rfl) (by kernel_rfl) (by kernel_rfl) (fun _ _ _ h => h) (Or.inl ⟨by rfl, ?_⟩) (by assumption) ?_
      rotate_left 1
      · (intro w hSw; (try dsimp only at hSw); go_simp; try with_reducible rfl)
      try simp only [Act.put, List.setIfInBounds_toArray, List.set_cons_zero, List.set_cons_succ]
      refine wpAnyH_take (i := 14) (v := ?_) (by simp only [List.getElem?_toArray, List.getElem?_cons_succ, List.getElem?_cons_zero]; rfl) (by kernel_rfl) (by kernel_rfl) (by kernel_rfl) (fun _ _ _ h => h) (Or.inl ⟨by rfl, ?_⟩) (by assumption) ?_
      rotate_left 1
      · (intro w hSw; (try dsimp only at hSw); go_simp; try with_reducible rfl)
      try simp only [Act.put, List.setIfInBounds_toArray, List.set_cons_zero, List.set_cons_succ]
      refine wpAnyH_take (i := 16) (v := ?_) (by simp only [List.getElem?_toArray, List.getElem?_cons_succ, List.getElem?_cons_zero]; rfl) (by kernel_rfl) (by kernel_rfl) (by kernel_rfl) (fun _ _ _ h => h) (Or.inl ⟨by rfl, ?_⟩) (by assumption) ?_
      rotate_left 1
      · (intro w hSw; (try dsimp only at hSw); go_simp; try with_reducible rfl)
      try simp only [Act.put, List.setIfInBounds_toArray, List.set_cons_zero, List.set_cons_succ]
      refine wpAnyH_ready (rs := [15]) (by kernel_rfl) (by simp) ?_
      refine AllReadyH.cons (by simp only [List.getElem?_toArray, List.getElem?_cons_succ, List.getElem?_cons_zero]; rfl) (fun K hK => ?_) ?_
      rotate_left 1
      · exact AllReadyH.nil
      go_simp
      refine (ld_queue HD1.out.drew).mono ?_; rintro e w3 ⟨Aq2, cq2, rfl, hoq, hbq⟩; have Q3 := hide (Sl.of_own hoq); have B3 := hide ((Below.refl wr.heap.size wr).drew.trans hbq); have T0 := (K2.out.below B3.out).cell 0; have T2 := (K2.out.below B3.out).cell 2; have L3 := hide (Sl.of_own (own_keep HL.out B3.out)); clear hoq hbq; go_wp2_with fail
      refine hK.out _ _ ?_ (fun hHeld2 => ?_)
      · ((try dsimp only) <;> (first | trivial | assumption | go_keep))
      clear hHeld
      have hHeld := hHeld2
      clear hHeld2 hK K
      try simp only [Act.put, List.setIfInBounds_toArray, List.set_cons_zero, List.set_cons_succ]
      refine wpAnyH_ready (rs := [17]) (by kernel_rfl) (by simp) ?_
      refine AllReadyH.cons (by simp only [List.getElem?_toArray, List.getElem?_cons_succ, List.getElem?_cons_zero]; rfl) (fun K hK => ?_) ?_
      rotate_left 1
      · exact AllReadyH.nil
      go_simp
      refine (ints_same Aq2 A' D.queue.length cq2 c' _ _ _ w3 Q3.out L3.out (Nat.le_refl _) (Nat.le_refl _) hqn).mono ?_; rintro e w5 ⟨rfl, hb5⟩; have B5 := hide (B3.out.trans (hb5.mono B3.out.size)); have U0 := (K2.out.below B5.out).cell 0; have U2 := (K2.out.below B5.out).cell 2; clear hb5; go_wp2_with fail
      refine hK.out _ _ ?_ (fun hHeld2 => ?_)
      · ((try dsimp only) <;> (first | trivial | assumption | go_keep))
      clear hHeld
      have hHeld := hHeld2
      clear hHeld2 hK K
      try simp only [Act.put, List.setIfInBounds_toArray, List.set_cons_zero, List.set_cons_succ]
      refine wpAnyH_take (i := 18) (v := ?_) (by simp only [List.getElem?_toArray, List.getElem?_cons_succ, List.getElem?_cons_zero]; rfl) (by kernel_rfl) (by kernel_rfl) (by kernel_rfl) (fun _ _ _ h => h) (Or.inl ⟨by rfl, ?_⟩) (by assumption) ?_
      rotate_left 1
      · (intro w hSw; (try dsimp only at hSw); go_simp; try with_reducible rfl)
      try simp only [Act.put, List.setIfInBounds_toArray, List.set_cons_zero, List.set_cons_succ]
      refine wpAnyH_take (i := 19) (v := ?_) (by simp only [List.getElem?_toArray, List.getElem?_cons_succ, List.getElem?_cons_zero]; rfl) (by kernel_rfl) (by kernel_rfl) (by kernel_rfl) (fun _ _ _ h => h) (Or.inl ⟨by rfl, ?_⟩) (by assumption) ?_
      rotate_left 1
      · (intro w hSw; (try dsimp only at hSw); go_simp; try with_reducible rfl)
      try simp only [Act.put, List.setIfInBounds_toArray, List.set_cons_zero, List.set_cons_succ]
      refine wpAnyH_done (by kernel_rfl) ?_ _
      refine NoPanic.normal ?_
      have K5 := hide (K2.out.below B5.out)
      have HD5 := hide (HD1.out.below B5.out)
      have Hb5 := hide (Kb2.out.trans (B5.out.mono Kb2.out.size))
      clear T0 T2 U0 U2 S0 S2 hHeld Q3 L3 B3 B5 HL HD1 K2 Kb2 K1 Kb
      have V0 : w5.cell? ⟨w.heap.size, 0, none⟩ = some (.slice As D.sure.length cs) := K5.out.cell 0
      go_wp2_with fail
      clear V0
      go_loopw [49] (fun x wz => ∃ i : Nat, i ≤ D.sure.length ∧ x = .int .i64 (i : Int) ∧ Below w5.heap.size w5 wz) (fun x _ => D.sure.length - (intOf x).toNat)
      case atStart => exact ⟨0, Nat.zero_le _, rfl, Below.refl _ _⟩
      case round =>
        obtain ⟨i, hi, rfl, h2⟩ := hrel
        have H2 := hide h2
        clear h2
        by_cases hlt2 : i < D.sure.length
        · go_wp2_with fail
          refine (ld_read (HD5.out.below H2.out) i hlt2).mono ?_
          rintro e w6 ⟨gx, rfl, hgx, hbx, hblx⟩
          have B6 := hide (H2.out.trans (hblx.mono H2.out.size))
          have r64 : Hid ((D.read i).length = 64) := hide (read_len HD.out i hlt2)
          have X6 := hide hbx
          have K6 := hide (K5.out.below B6.out)
          have H6 := hide ((H.out.below Hb5.out).below B6.out)
          clear hbx hblx hgx H2
          have e1 := cvt' hcv (w := w6.drew) 64 (by_blk X6.out.drew r64.out)
          have ht := txt_eq (D.read i)
          obtain ⟨c0, c1, c2, c3, -⟩ := blk4 K6.out
          obtain ⟨rd, hrd⟩ : ∃ rd, rd = D.read i := ⟨_, rfl⟩
          rw [← hrd] at e1 ht r64 X6
          replace hrd := hide hrd
          go_wp2_with fail
          refine wp_region_noPanic ?_
          refine wp_region_held_drew (S := (fun w' => cv (.slice (some ⟨gx, 0, none⟩) 64 64) w' = .ok (.string (txt rd)) w' ∧ w'.cell? ⟨w.heap.size, 0, none⟩ = some (.slice As D.sure.length cs) ∧ w'.cell? ⟨w.heap.size, 1, none⟩ = some (.slice Aq D.queue.length cq) ∧ w'.cell? ⟨w.heap.size, 2, none⟩ = some (.int .i64 (D.steps : Int)) ∧ w'.cell? ⟨w.heap.size, 3, none⟩ = some (.int .i64 D.left))) (by kernel_rfl) ?_ (fun hHeld => ?_)
          · ((try dsimp only) <;> (first | trivial | assumption | go_keep))
          refine wpAnyH_take (i := 0) (v := ?_) (by simp only [List.getElem?_toArray, List.getElem?_cons_succ, List.getElem?_cons_zero]; rfl) (by kernel_rfl) (by kernel_rfl) (by kernel_rfl) (fun _ _ _ h => h) (Or.inl ⟨by rfl, ?_⟩) (by assumption) ?_
          rotate_left 1
          · (intro w hSw; (try dsimp only at hSw); go_simp; try with_reducible rfl)
          try simp only [Act.put, List.setIfInBounds_toArray, List.set_cons_zero, List.set_cons_succ]
          refine wpAnyH_take (i := 1) (v := ?_) (by simp only [List.getElem?_toArray, List.getElem?_cons_succ, List.getElem?_cons_zero]; rfl) (by kernel_rfl) (by kernel_rfl) (by kernel_rfl) (fun _ _ _ h => h) (Or.inl ⟨by rfl, ?_⟩) (by assumption) ?_
          rotate_left 1
          · (intro w hSw; (try dsimp only at hSw); go_simp; try with_reducible rfl)
          try simp only [Act.put, List.setIfInBounds_toArray, List.set_cons_zero, List.set_cons_succ]
          refine wpAnyH_take (i := 2) (v := ?_) (by simp only [List.getElem?_toArray, List.getElem?_cons_succ, List.getElem?_cons_zero]; rfl) (by kernel_rfl) (by kernel_rfl) (by kernel_rfl) (fun _ _ _ h => h) (Or.inl ⟨by rfl, ?_⟩) (by assumption) ?_
          rotate_left 1
          · (intro w hSw; (try dsimp only at hSw); go_simp; try with_reducible rfl)
          try simp only [Act.put, List.setIfInBounds_toArray, List.set_cons_zero, List.set_cons_succ]
          refine wpAnyH_take (i := 3) (v := ?_) (by simp only [List.getElem?_toArray, List.getElem?_cons_succ, List.getElem?_cons_zero]; rfl) (by kernel_rfl) (by kernel_rfl) (by kernel_rfl) (fun _ _ _ h => h) (Or.inl ⟨by rfl, ?_⟩) (by assumption) ?_
          rotate_left 1
          · (intro w hSw; (try dsimp only at hSw); go_simp; try with_reducible rfl)
          try simp only [Act.put, List.setIfInBounds_toArray, List.set_cons_zero, List.set_cons_succ]
          refine wpAnyH_take (i := 4) (v := ?_) (by simp only [List.getElem?_toArray, List.getElem?_cons_succ, List.getElem?_cons_zero]; rfl) (by kernel_rfl) (by kernel_rfl) (by kernel_rfl) (fun _ _ _ h => h) (Or.inl ⟨by rfl, ?_⟩) (by assumption) ?_
          rotate_left 1
          · (intro w hSw; (try dsimp only at hSw); go_simp; try with_reducible rfl)
          try simp only [Act.put, List.setIfInBounds_toArray, List.set_cons_zero, List.set_cons_succ]
          refine wpAnyH_take (i := 5) (v := ?_) (by simp only [List.getElem?_toArray, List.getElem?_cons_succ, List.getElem?_cons_zero]; rfl) (by kernel_rfl) (by kernel_rfl) (by kernel_rfl) (fun _ _ _ h => h) (Or.inl ⟨by rfl, ?_⟩) (by assumption) ?_
          rotate_left 1
          · (intro w hSw; (try dsimp only at hSw); go_simp; try with_reducible rfl)
          try simp only [Act.put, List.setIfInBounds_toArray, List.set_cons_zero, List.set_cons_succ]
          refine wpAnyH_take (i := 6) (v := ?_) (by simp only [List.getElem?_toArray, List.getElem?_cons_succ, List.getElem?_cons_zero]; rfl) (by kernel_rfl) (by kernel_rfl) (by kernel_rfl) (fun _ _ _ h => h) (Or.inl ⟨by rfl, ?_⟩) (by assumption) ?_
          rotate_left 1
          · (intro w hSw; (try dsimp only at hSw); go_simp; try with_reducible rfl)
          try simp only [Act.put, List.setIfInBounds_toArray, List.set_cons_zero, List.set_cons_succ]
          refine wpAnyH_ready (rs := [7]) (by kernel_rfl) (by simp) ?_
          refine AllReadyH.cons (by simp only [List.getElem?_toArray, List.getElem?_cons_succ, List.getElem?_cons_zero]; rfl) (fun K hK => ?_) ?_
          rotate_left 1
          · exact AllReadyH.nil
          go_simp
          have hrc := rread_any w6.drew base As cs Aq cq D (H6.out.below (Below.refl _ _).drew) i hlt2; rw [hV.out] at hrc; refine hrc.mono ?_; clear hrc; rintro e w7 ⟨rfl, hb7⟩; rw [← hrd.out]; have B7 := hide ((Below.refl w6.heap.size w6).drew.trans hb7); have e2 := cvt' hcv (w := w7) 64 (by_blk (X6.out.below B7.out) r64.out); obtain ⟨d0, d1, d2, d3, -⟩ := blk4 (K6.out.below B7.out); clear hb7; go_wp2_with fail
          refine hK.out _ _ ?_ (fun hHeld2 => ?_)
          · ((try dsimp only) <;> (first | trivial | assumption | go_keep))
          clear hHeld
          have hHeld := hHeld2
          clear hHeld2 hK K
          try simp only [Act.put, List.setIfInBounds_toArray, List.set_cons_zero, List.set_cons_succ]
          refine wpAnyH_take (i := 8) (v := ?_) (by simp only [List.getElem?_toArray, List.getElem?_cons_succ, List.getElem?_cons_zero]; rfl) (by kernel_rfl) (by kernel_rfl) (by kernel_rfl) (fun _ _ _ h => h) (Or.inl ⟨by rfl, ?_⟩) (by assumption) ?_
          rotate_left 1
          · (intro w hSw; (try dsimp only at hSw); go_simp; try with_reducible rfl)
          try simp only [Act.put, List.setIfInBounds_toArray, List.set_cons_zero, List.set_cons_succ]
          refine wpAnyH_take (i := 9) (v := ?_) (by simp only [List.getElem?_toArray, List.getElem?_cons_succ, List.getElem?_cons_zero]; rfl) (by kernel_rfl) (by kernel_rfl) (by kernel_rfl) (fun _ _ _ h => h) (Or.inl ⟨by rfl, ?_⟩) (by assumption) ?_
          rotate_left 1
          · (intro w hSw; (try dsimp only at hSw); go_simp; try with_reducible rfl)
          try simp only [Act.put, List.setIfInBounds_toArray, List.set_cons_zero, List.set_cons_succ]
          refine wpAnyH_done (by kernel_rfl) ?_ _
          refine NoPanic.normal ?_
          go_wp2_with fail
          go_roundw
          case rel => exact ⟨i + 1, by omega, by go_num, B6.out.trans (B7.out.mono B6.out.size)⟩
          case measure => simp [intOf]; omega
        · go_wp2_with fail
          go_ret
          exact ⟨rfl, Hb5.out.trans (H2.out.mono Hb5.out.size)⟩
end Go.Proofs.YtlobkefacnedeaaDoor

/- Crashes of a quiet disk; one piece as a slice. -/
namespace Go.Proofs.YtlobkefacnedeaaDoor
open Go.RowKit
set_option maxRecDepth 100000

theorem crashed_none15 {D : Dsk} (hq : D.queue = []) (f : Nat → Nat → Bool) (cap : Nat) (pad : Array Value) : (D.crashed f cap pad).sure = D.sure ∧ (D.crashed f cap pad).queue = [] ∧ ∀ j, (D.crashed f cap pad).read j = D.read j := by
  have h1 : (D.crashed f cap pad).sure = D.sure := by
    show crashN f D.queue D.queue.length D.sure = D.sure
    rw [hq]
    rfl
  refine ⟨h1, rfl, fun j => ?_⟩
  unfold Dsk.read
  rw [h1, hq]
  rfl
/-- One piece as a slice of one. -/
theorem pcs_one {w : World} {a : Int} {v : PV} {A1 A2 A3 : Option Addr} {n1 c1 n2 c2 m c3 : Nat} {data : List UInt8} (ha : I64 a) (hf : FisAt 0 w.heap.size w A1 n1 v.fs) (hi : IntsAt 0 w.heap.size w A2 n2 v.is) (hd : By w w.heap.size A3 m data) (hmc : m ≤ c3)
    (hn1 : n1 ≤ 9223372036854775807) (hn2 : n2 ≤ 9223372036854775807) (hm : m ≤ 9223372036854775807) (hl : ∀ f ∈ v.fs, (∀ x ∈ f.ls, I64 x) ∧ f.ls.length ≤ 9223372036854775807) :
    PcsAt (w.alloc (.cells (rfC a v A1 n1 c1 A2 n2 c2 A3 m c3) 28)) (some ⟨w.heap.size, 0, none⟩) 1 [(a, v, data)] := by
  refine ⟨rfl, fun j p hp => ?_⟩
  cases j with
  | succ j => simp at hp
  | zero =>
    obtain rfl : (a, v, data) = p := by simpa using hp
    have hB := Blk.new w 28 (rfC a v A1 n1 c1 A2 n2 c2 A3 m c3)
    have ba := (Below.refl w.heap.size w).alloc (Nat.le_refl _) (.cells (rfC a v A1 n1 c1 A2 n2 c2 A3 m c3) 28)
    exact ⟨w.heap.size, 0, A1, n1, c1, A2, n2, c2, A3, m, c3, rfl, hB.lt, fun t u hu => by rw [show 0 + 0 * 9 + t = t by omega, hB.cell]; exact hu, ha, (hf.below ba).base_ ba.size, (RwAt.below hi ba).base_ ba.size, (hd.below ba).more ba.size, hmc, hn1, hn2, hm, hl⟩
end Go.Proofs.YtlobkefacnedeaaDoor
