/- The walk over marllaw06.Own. -/
import Derived.Test.YtopjkpopdffkeaaPkF
import Derived.Test.YtopjkpopdffkeaaCOI
namespace Go.Proofs.Ytopjkpopdffkeaa
open Go.RowKit
attribute [local go_sem ↓] Go.wp_at_zero Go.wp_at_succ

theorem FRow.alloc {base n c : Nat} {w : World} {A : Option Addr} {fs : List FI} (h : FRow base w A n c fs) (o : Obj) : FRow base (w.alloc o) A n c fs := h.below ((Below.refl _ _).alloc (Nat.le_refl _) _)
/-- A cell of a block that is not the row's own. -/
theorem FRow.far2 {base n c : Nat} {w : World} {A : Option Addr} {fs : List FI} (h : FRow base w A n c fs) {p : Addr} {t : TypeId} {cs : Array Value} (hB : Blk w p.block t cs) (hb : base ≤ p.block) (h1 : t ≠ 3) (h2 : ∀ g, (Value.slice A n c).ownBlock = some g → g ≠ p.block) (u : Value) : FRow base (w.setCell p u) A n c fs := by
  obtain ⟨ds, e1, e2, e3, e4⟩ := h
  exact ⟨ds, e1, e2, e3.keep_far h2 u, fun j x f hx hf => (e4 j x f hx hf).kt (T := [t]) ((Kt.refl _ _ _).set (.inl ⟨hb, fun t' cs' hB' => by simp [(Blk.type hB' hB).1]⟩) u) (by simpa using Ne.symm h1)⟩
theorem FRow.lt {base n c : Nat} {w : World} {A : Option Addr} {fs : List FI} (h : FRow base w A n c fs) : ∀ g, (Value.slice A n c).ownBlock = some g → base ≤ g ∧ g < w.heap.size := fun g hg => by
  obtain ⟨hb, cs, hB⟩ := h.blk hg
  exact ⟨hb, hB.lt⟩
theorem fis_num {lo base j n : Nat} {w : World} {A : Option Addr} {fs : List FI} (h : FisAt lo base w A j fs) (e : j = n) : FisAt lo base w A n fs := e ▸ h
set_option maxRecDepth 100000 in
set_option maxHeartbeats 4000000 in
theorem own_any (e c i p x : Int) (A1 A2 : Option Addr) (n1 c1 n2 c2 lo base lo2 base2 : Nat) (fs : List FI) (is : List Int) (w : World) (hf : FisAt lo base w A1 n1 fs) (hi : IntsAt lo2 base2 w A2 n2 is) (hn1 : n1 ≤ 1000000) (hn2 : n2 ≤ 1000000) (hfl : ∀ f ∈ fs, f.ls.length ≤ 1000000) :
    Calls Try.prog 9 #[.agg (partC e c i p x A1 n1 c1 A2 n2 c2)] w fun r w' => ∃ B1 d1 B2 d2, r = .returned (.agg (partC e c i p x B1 n1 d1 B2 n2 d2)) ∧ FisAt w.heap.size w.heap.size w' B1 n1 fs ∧ IntsAt w.heap.size w.heap.size w' B2 n2 is ∧ Below w.heap.size w w' := by
  have HF := hide hf
  have HI := hide hi
  have HFL := hide hfl
  have HL1 := hide hf.len
  have HL2 := hide (IntsAt.len hi)
  have i0 := fun w => int_slice0 w
  have lf := fun w xs h => one_slice etyF w xs h (by decide)
  clear hf hi hfl
  unfold partC
  go_enter Try.func9, Try.ntmps9
  obtain ⟨bs, hbs⟩ : ∃ b, b = w.heap.size := ⟨_, rfl⟩
  go_upto_region 1 with fail
  obtain ⟨w2, hw2⟩ : ∃ W, W = ((w.alloc (.cells #[.int .i64 e, .int .i64 c, .int .i64 i, .int .i64 p, .int .i64 x, .slice A1 n1 c1, .slice A2 n2 c2] 28)).alloc (.cells #[.int .i64 0, .int .i64 0, .int .i64 0, .int .i64 0, .int .i64 0, .slice none 0 0, .slice none 0 0] 28)) := ⟨_, rfl⟩
  have K2 : Hid (Blk w2 w.heap.size 28 #[.int .i64 e, .int .i64 c, .int .i64 i, .int .i64 p, .int .i64 x, .slice A1 n1 c1, .slice A2 n2 c2]) := hide (by rw [hw2]; exact (Blk.new _ _ _).alloc _)
  have R2 : Hid (Blk w2 (w.heap.size + 1) 28 #[.int .i64 0, .int .i64 0, .int .i64 0, .int .i64 0, .int .i64 0, .slice none 0 0, .slice none 0 0]) := hide (by
    rw [hw2]
    have := Blk.new (w.alloc (.cells #[.int .i64 e, .int .i64 c, .int .i64 i, .int .i64 p, .int .i64 x, .slice A1 n1 c1, .slice A2 n2 c2] 28)) 28 #[.int .i64 0, .int .i64 0, .int .i64 0, .int .i64 0, .int .i64 0, .slice none 0 0, .slice none 0 0]
    rwa [World.size_alloc] at this)
  have B2 : Hid (Below w.heap.size w w2) := hide (by rw [hw2]; exact ((Below.refl _ _).alloc (Nat.le_refl _) _).alloc (by simp) _)
  rw [← hw2]
  clear hw2
  have z6 := (K2.out.alloc (.cells #[] 3)).cell 6
  simp only [List.getElem?_toArray, List.getElem?_cons_succ, List.getElem?_cons_zero] at z6
  go_upto_region 2 with (
    at_builtin
    refine wpList_app _ rfl (.tmp 6) (.tmp 8) _ rfl etyJ w.heap.size (.slice (some ⟨w2.heap.size, 0, none⟩) 0 0) 0 [] rfl (own_nw B2.out.size) _ A2 n2 c2 (intC is) rfl ((RwAt.below HI.out B2.out).below ((Below.refl _ _).alloc (Nat.le_refl _) _)).sl (intC_one is) (by omega) (Nat.le_trans B2.out.size (by simp)) ?_
    intro A3 c3 w3 hown hg hnew
    have B3 := hide (bel_gr (B2.out.alloc B2.out.size (.cells #[] 3)) hg (fun g hg => by simp [Value.ownBlock] at hg; have := B2.out.size; omega) (Nat.le_trans B2.out.size (by simp)))
    have K3 : Hid (Blk w3 w.heap.size 28 #[.int .i64 e, .int .i64 c, .int .i64 i, .int .i64 p, .int .i64 x, .slice A1 n1 c1, .slice A2 n2 c2]) := hide ((hg.block _ (by have := K2.out.lt; simp; omega) (fun e => by simp [Value.ownBlock] at e; have := K2.out.lt; omega)).trans (K2.out.alloc _))
    have R3 : Hid (Blk w3 (w.heap.size + 1) 28 #[.int .i64 0, .int .i64 0, .int .i64 0, .int .i64 0, .int .i64 0, .slice none 0 0, .slice none 0 0]) := hide ((hg.block _ (by have := R2.out.lt; simp; omega) (fun e => by simp [Value.ownBlock] at e; have := R2.out.lt; omega)).trans (R2.out.alloc _))
    have I3 : Hid (IntsAt w.heap.size w.heap.size w3 A3 n2 is) := hide (by have := RwAt.of_own (base := w.heap.size) hown; simpa using this)
    have f6 := K3.out.frozen 6
    have y6 := K3.out.cell 6
    simp only [List.getElem?_toArray, List.getElem?_cons_succ, List.getElem?_cons_zero] at y6
    clear hown hg hnew)
  try simp only [Nat.zero_add]
  obtain ⟨w4, hw4⟩ : ∃ W, W = w3.setCell ⟨w.heap.size, 6, none⟩ (.slice A3 n2 c3) := ⟨_, rfl⟩
  have B4 : Hid (Below w.heap.size w w4) := hide (by rw [hw4]; exact B3.out.setCell (p := ⟨w.heap.size, 6, none⟩) (Nat.le_refl _) _)
  have K4 : Hid (Blk w4 w.heap.size 28 #[.int .i64 e, .int .i64 c, .int .i64 i, .int .i64 p, .int .i64 x, .slice A1 n1 c1, .slice A3 n2 c3]) := hide (by rw [hw4]; exact K3.out.set 6 _)
  have R4 : Hid (Blk w4 (w.heap.size + 1) 28 #[.int .i64 0, .int .i64 0, .int .i64 0, .int .i64 0, .int .i64 0, .slice none 0 0, .slice none 0 0]) := hide (by rw [hw4]; exact R3.out.far (p := ⟨w.heap.size, 6, none⟩) (by show w.heap.size + 1 ≠ w.heap.size; omega) _)
  have I4 : Hid (IntsAt w.heap.size w.heap.size w4 A3 n2 is) := hide (by
    rw [hw4]
    exact RwAt.kt I3.out (T := [28]) ((Kt.refl _ _ _).set (p := ⟨w.heap.size, 6, none⟩) (.inl ⟨Nat.le_refl _, fun t cs hB => by simp [(Blk.type hB K3.out).1]⟩) _) (by decide))
  rw [← hw4]
  clear hw4 y6 f6 z6 K3 R3 B3 I3 K2 R2 B2
  have z5 := K4.out.cell 5
  simp only [List.getElem?_toArray, List.getElem?_cons_succ, List.getElem?_cons_zero] at z5
  go_wp2_with fail
  clear z5
  go_loopw [3, 14] (fun v y wr => ∃ (j : Nat) (A : Option Addr) (d : Nat), j ≤ n1 ∧ y = .int .i64 (j : Int) ∧ v = .slice A j d ∧ FRow w.heap.size wr A j d (fs.take j) ∧ Kt [45] w.heap.size w4 wr) (fun _ y _ => n1 - (intOf y).toNat)
  case atStart => exact ⟨0, none, 0, Nat.zero_le _, rfl, rfl, ⟨[], rfl, rfl, World.ownsRow_nil _ _ _ _, by simp⟩, Kt.refl _ _ _⟩
  case round =>
    obtain ⟨j, A, d, hj, rfl, rfl, hR, hK⟩ := hrel
    have HR := hide hR
    have HK := hide hK
    have HB := hide (B4.out.trans (hK.below B4.out.size))
    clear hR hK
    by_cases hlt : j < n1
    · obtain ⟨b, off, f, A5, c5, hA, hFr, hfi, hI5, q0, q1, q2⟩ := (HF.out.below HB.out).at hlt
      subst hA
      have HFI := hide hfi
      have hlb := HFL.out f (List.mem_of_getElem? hfi)
      have HI5 := hide hI5
      obtain ⟨m5, hm5⟩ : ∃ n, n = f.ls.length := ⟨_, rfl⟩
      rw [← hm5] at q2 hlb HI5
      have HM5 := hide hm5
      clear hfi hI5 hFr hm5
      have hjs : (j : Int) < (n1 : Int) := by omega
      have hw64 : IntKind.i64.wrap (j : Int) = (j : Int) := by rw [IntKind.wrap_i64]; omega
      go_upto_region 6 with fail
      obtain ⟨w5, hw5⟩ : ∃ W, W = wr.alloc (.cells #[.int .i64 f.ino, .int .i64 f.ver, .slice A5 m5 c5] 45) := ⟨_, rfl⟩
      have S5 : Hid (w5.heap.size = wr.heap.size + 1) := hide (by rw [hw5]; simp)
      have X5 : Hid (Blk w5 wr.heap.size 45 #[.int .i64 f.ino, .int .i64 f.ver, .slice A5 m5 c5]) := hide (by rw [hw5]; exact Blk.new _ _ _)
      have R5 : Hid (FRow w.heap.size w5 A j d (fs.take j)) := hide (by rw [hw5]; exact HR.out.alloc _)
      have KT5 : Hid (Kt [45] w.heap.size w4 w5) := hide (by rw [hw5]; exact HK.out.alloc _)
      have B5 : Hid (Below w.heap.size w w5) := hide (B4.out.trans (KT5.out.below B4.out.size))
      have I5 : Hid (IntsAt lo base w5 A5 m5 f.ls) := hide (by rw [hw5]; exact RwAt.below HI5.out ((Below.refl _ _).alloc (Nat.le_refl _) _))
      rw [← hw5]
      clear hw5
      have x2 := (X5.out.alloc (.cells #[] 3)).cell 2
      simp only [List.getElem?_toArray, List.getElem?_cons_succ, List.getElem?_cons_zero] at x2
      have LT5 := hide R5.out.lt
      go_upto_region 7 with (
        at_builtin
        refine wpList_app _ rfl (.tmp 18) (.tmp 20) _ rfl etyJ w.heap.size (.slice (some ⟨w5.heap.size, 0, none⟩) 0 0) 0 [] rfl (own_nw B5.out.size) _ A5 m5 c5 (intC f.ls) rfl (RwAt.below I5.out ((Below.refl _ _).alloc (Nat.le_refl _) _)).sl (intC_one _) (by omega) (Nat.le_trans B5.out.size (by simp)) ?_
        intro A6 c6 w6 hown hg hnew
        have K6 : Hid (Kt [45] w.heap.size w5 w6) := hide (Kt.of_below (bel_gr ((Below.refl w5.heap.size w5).alloc (Nat.le_refl _) (.cells #[] 3)) hg (fun g hg => by simp [Value.ownBlock] at hg; omega) (by simp)))
        have BB6 : Hid (Below w5.heap.size w5 w6) := hide (bel_gr ((Below.refl w5.heap.size w5).alloc (Nat.le_refl _) (.cells #[] 3)) hg (fun g hg => by simp [Value.ownBlock] at hg; omega) (by simp))
        have X6 := hide (X5.out.below BB6.out)
        have R6 := hide (R5.out.below BB6.out)
        have I6 : Hid (IntsAt w.heap.size w.heap.size w6 A6 m5 f.ls) := hide (by have := RwAt.of_own (base := w.heap.size) hown; simpa using this)
        have f2 := X6.out.frozen 2
        have y2 := X6.out.cell 2
        simp only [List.getElem?_toArray, List.getElem?_cons_succ, List.getElem?_cons_zero] at y2
        clear hown hg hnew)
      try simp only [Nat.zero_add]
      have BX := hide (HB.out.size)
      obtain ⟨w7, hw7⟩ : ∃ W, W = w6.setCell ⟨wr.heap.size, 2, none⟩ (.slice A6 m5 c6) := ⟨_, rfl⟩
      have KS : Hid (Kt [45] w.heap.size w6 w7) := hide (by rw [hw7]; exact (Kt.refl _ _ _).set (p := ⟨wr.heap.size, 2, none⟩) (.inl ⟨BX.out, fun t cs hB => by simp [(Blk.type hB X6.out).1]⟩) _)
      have X7 : Hid (Blk w7 wr.heap.size 45 #[.int .i64 f.ino, .int .i64 f.ver, .slice A6 m5 c6]) := hide (by rw [hw7]; exact X6.out.set 2 _)
      have R7 : Hid (FRow w.heap.size w7 A j d (fs.take j)) := hide (by
        rw [hw7]
        exact R6.out.far2 (p := ⟨wr.heap.size, 2, none⟩) X6.out BX.out (by decide) (fun g hg => by have := (HR.out.lt g hg).2; show g ≠ wr.heap.size; omega) _)
      have I7 : Hid (IntsAt w.heap.size w.heap.size w7 A6 m5 f.ls) := hide (RwAt.kt I6.out KS.out (by decide))
      have K7 := hide (KT5.out.trans (K6.out.trans KS.out))
      have B7 := hide (B4.out.trans (K7.out.below B4.out.size))
      rw [← hw7]
      clear hw7 x2 y2 f2 K6 KS X6 R6 I6 BB6
      have v0 := X7.out.cell 0
      have v1 := X7.out.cell 1
      have v2 := X7.out.cell 2
      simp only [List.getElem?_toArray, List.getElem?_cons_succ, List.getElem?_cons_zero] at v0 v1 v2
      go_wp2_with (
        at_builtin
        obtain ⟨cs, e1, e2, e3, e4⟩ := R7.out
        have HH := hide (And.intro e1 e2)
        have E4 := hide (fun (q : Nat) (y : List Value) (g : FI) (hx : cs[q]? = some y) (hg : (fs.take j)[q]? = some g) => (e4 q y g hx hg).kt (T := []) (Kt.of_below ((Below.refl w7.heap.size w7).alloc (Nat.le_refl _) (.cells #[.int .i64 f.ino, .int .i64 f.ver, .slice A6 m5 c6] 45))) (by simp))
        have E3 := hide (own_bel e3 ((Below.refl w7.heap.size w7).alloc (Nat.le_refl _) (.cells #[.int .i64 f.ino, .int .i64 f.ver, .slice A6 m5 c6] 45)))
        clear e1 e2 e3 e4
        refine wpList_appK rfl (.tmp 23) (.tmp 25) _ rfl etyF w.heap.size (.slice A j d) j cs.flatten rfl E3.out (w7.heap.size + 1) (some ⟨w7.heap.size, 0, none⟩) 1 1 [.int .i64 f.ino, .int .i64 f.ver, .slice A6 m5 c6] rfl (slc_new w7 [.int .i64 f.ino, .int .i64 f.ver, .slice A6 m5 c6] _ rfl) (by intro u hu; simp only [List.mem_cons, List.not_mem_nil, or_false] at hu; rcases hu with rfl | rfl | rfl <;> rfl) (by omega) (Nat.le_trans B7.out.size (by simp)) ?_
        intro A8 c8 w8 hown hg hnew
        have R8 : Hid (FRow w.heap.size w8 A8 (j + 1) c8 (fs.take (j + 1))) := hide (by
          have hF8 : FiC w.heap.size w.heap.size (w7.alloc (.cells #[.int .i64 f.ino, .int .i64 f.ver, .slice A6 m5 c6] 45)) [.int .i64 f.ino, .int .i64 f.ver, .slice A6 m5 c6] f := ⟨A6, c6, by unfold fiV; rw [← HM5.out], by rw [← HM5.out]; exact RwAt.below I7.out ((Below.refl _ _).alloc (Nat.le_refl _) _)⟩
          rw [List.take_add_one, HFI.out]
          exact FRow.app (gs := [f]) (ds := [[.int .i64 f.ino, .int .i64 f.ver, .slice A6 m5 c6]]) HH.out.1 HH.out.2 E3.out E4.out rfl rfl (fun q y g hy hg => by
            cases q with
            | zero =>
              simp only [List.getElem?_cons_zero, Option.some.injEq] at hy hg
              subst hy hg
              exact hF8
            | succ q => simp at hy) rfl (by simpa using hown) hg)
        have K8 := hide (K7.out.trans ((Kt.of_below ((Below.refl w7.heap.size w7).alloc (Nat.le_refl _) (.cells #[.int .i64 f.ino, .int .i64 f.ver, .slice A6 m5 c6] 45))).trans (Kt.gr (T := [45]) hg (fun g hg => by
          obtain ⟨hb, cs', hB⟩ := FRow.blk ⟨cs, HH.out.1, HH.out.2, E3.out, E4.out⟩ hg
          exact ⟨hb, _, cs', hB, by simp⟩))))
        clear hown hg hnew)
      go_roundw
      case rel => exact ⟨j + 1, A8, c8, by omega, by go_num, rfl, R8.out, K8.out⟩
      case measure => simp [intOf]; omega
    · have hjn : j = n1 := by omega
      have X9 := hide (K4.out.kt HK.out (by decide))
      have Z9 := hide (R4.out.kt HK.out (by decide))
      have I9 := hide (RwAt.kt I4.out HK.out (by decide))
      have F9 : Hid (FisAt w.heap.size w.heap.size wr A j fs) := hide (by
        have := HR.out.fis
        rw [hjn, List.take_of_length_le (by rw [HL1.out]; exact Nat.le_refl _)] at this
        rw [hjn]
        exact this)
      have f5 := X9.out.frozen 5
      have z5 := X9.out.cell 5
      simp only [List.getElem?_toArray, List.getElem?_cons_succ, List.getElem?_cons_zero] at z5
      have HJ := hide hjn
      clear hjn
      go_upto_region 10 with fail
      obtain ⟨w5, hw5⟩ : ∃ W, W = wr.setCell ⟨w.heap.size, 5, none⟩ (.slice A j d) := ⟨_, rfl⟩
      have KS : Hid (Kt [28] w.heap.size wr w5) := hide (by rw [hw5]; exact (Kt.refl _ _ _).set (p := ⟨w.heap.size, 5, none⟩) (.inl ⟨Nat.le_refl _, fun t cs hB => by simp [(Blk.type hB X9.out).1]⟩) _)
      have Y5 : Hid (Blk w5 w.heap.size 28 #[.int .i64 e, .int .i64 c, .int .i64 i, .int .i64 p, .int .i64 x, .slice A j d, .slice A3 n2 c3]) := hide (by rw [hw5]; exact X9.out.set 5 _)
      have Z5 : Hid (Blk w5 (w.heap.size + 1) 28 #[.int .i64 0, .int .i64 0, .int .i64 0, .int .i64 0, .int .i64 0, .slice none 0 0, .slice none 0 0]) := hide (by rw [hw5]; exact Z9.out.far (p := ⟨w.heap.size, 5, none⟩) (by show w.heap.size + 1 ≠ w.heap.size; omega) _)
      have I5 := hide (RwAt.kt I9.out KS.out (by decide))
      have F5 := hide (F9.out.kt KS.out (by decide) (by decide))
      have B5 := hide (HB.out.trans (KS.out.below HB.out.size))
      rw [← hw5]
      clear hw5 z5 f5
      have y0 := Y5.out.cell 0
      have y1 := Y5.out.cell 1
      have y2 := Y5.out.cell 2
      have y3 := Y5.out.cell 3
      have y4 := Y5.out.cell 4
      have y5 := Y5.out.cell 5
      have y6 := Y5.out.cell 6
      have s0 := Z5.out.cell 0
      have s1 := Z5.out.cell 1
      have s2 := Z5.out.cell 2
      have s3 := Z5.out.cell 3
      have s4 := Z5.out.cell 4
      have s5 := Z5.out.cell 5
      have s6 := Z5.out.cell 6
      have t0 := Z5.out.frozen 0
      have t1 := Z5.out.frozen 1
      have t2 := Z5.out.frozen 2
      have t3 := Z5.out.frozen 3
      have t4 := Z5.out.frozen 4
      have t5 := Z5.out.frozen 5
      have t6 := Z5.out.frozen 6
      simp only [List.getElem?_toArray, List.getElem?_cons_succ, List.getElem?_cons_zero] at y0 y1 y2 y3 y4 y5 y6 s0 s1 s2 s3 s4 s5 s6
      go_wp2_with fail
      have KF := (((((((Z5.out.set 0 (.int .i64 e)).set 1 (.int .i64 c)).set 2 (.int .i64 i)).set 3 (.int .i64 p)).set 4 (.int .i64 x)).set 5 (.slice A j d)).set 6 (.slice A3 n2 c3))
      simp only [List.setIfInBounds_toArray, List.set_cons_zero, List.set_cons_succ] at KF
      have hZ : ∀ (W : World) (q : Nat) (u : Value), (∃ cs, Blk W (w.heap.size + 1) 28 cs) → Kt [28] w.heap.size W (W.setCell ⟨w.heap.size + 1, q, none⟩ u) ∧ ∃ cs, Blk (W.setCell ⟨w.heap.size + 1, q, none⟩ u) (w.heap.size + 1) 28 cs := fun W q u ⟨cs, h⟩ =>
        ⟨(Kt.refl _ _ _).set (p := ⟨w.heap.size + 1, q, none⟩) (.inl ⟨Nat.le_succ _, fun t cs' hB => by simp [(Blk.type hB h).1]⟩) _, _, h.set q u⟩
      obtain ⟨k0, h0⟩ := hZ w5 0 (.int .i64 e) ⟨_, Z5.out⟩
      obtain ⟨k1, h1⟩ := hZ _ 1 (.int .i64 c) h0
      obtain ⟨k2, h2⟩ := hZ _ 2 (.int .i64 i) h1
      obtain ⟨k3, h3⟩ := hZ _ 3 (.int .i64 p) h2
      obtain ⟨k4, h4⟩ := hZ _ 4 (.int .i64 x) h3
      obtain ⟨k5, h5⟩ := hZ _ 5 (.slice A j d) h4
      obtain ⟨k6, h6⟩ := hZ _ 6 (.slice A3 n2 c3) h5
      have KK := hide (((((((k0.trans k1).trans k2).trans k3).trans k4).trans k5).trans k6))
      refine bodyPost_ret (results_cell_row (g := w.heap.size + 1) (cs := #[.int .i64 e, .int .i64 c, .int .i64 i, .int .i64 p, .int .i64 x, .slice A j d, .slice A3 n2 c3]) (t := 28) (fr := (0, 0)) rfl _ _ (hp := rfl) (hg := KF) (hu := Try.underlying28) (hd := rfl) (hi := by kernel_rfl)) rfl ?_
      have F6 := F5.out.kt KK.out (by decide) (by decide)
      replace F6 := fis_num F6 HJ.out
      have hE : Ending.returned (Value.agg #[.int .i64 e, .int .i64 c, .int .i64 i, .int .i64 p, .int .i64 x, .slice A j d, .slice A3 n2 c3]) = Ending.returned (Value.agg #[.int .i64 e, .int .i64 c, .int .i64 i, .int .i64 p, .int .i64 x, .slice A n1 d, .slice A3 n2 c3]) := by rw [HJ.out]
      have I6 := RwAt.kt I5.out KK.out (by decide)
      have B6 := B5.out.trans (KK.out.below B5.out.size)
      exact ⟨A, d, A3, c3, hE, F6, I6, B6⟩
end Go.Proofs.Ytopjkpopdffkeaa
