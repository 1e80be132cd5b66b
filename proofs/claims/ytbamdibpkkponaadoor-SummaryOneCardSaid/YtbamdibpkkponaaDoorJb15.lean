import Derived.Test.YtbamdibpkkponaaDoorJb02
import Derived.Test.YtbamdibpkkponaaDoorJb06
import Derived.Test.YtbamdibpkkponaaDoorJb09
import Derived.Test.YtbamdibpkkponaaDoorJb12
import Derived.Test.YtbamdibpkkponaaDoorJb13
import Derived.Test.YtbamdibpkkponaaDoorJb14
import Derived.SizedLaws
set_option linter.unusedVariables false
set_option linter.unusedSimpArgs false
/- The walk over marllaw06.Own. -/
namespace Go.Proofs.YtbamdibpkkponaaDoor
open Go.RowKit
attribute [local go_sem ↓] Go.wp_at_zero Go.wp_at_succ

theorem FRow.alloc {base n c : Nat} {w : World} {A : Option Addr} {fs : List FI} (h : FRow base w A n c fs) (o : Obj) : FRow base (w.alloc o) A n c fs := h.below ((Below.refl _ _).alloc (Nat.le_refl _) _)
/-- A cell of a block that is not the row's own. -/
theorem FRow.far2 {base n c : Nat} {w : World} {A : Option Addr} {fs : List FI} (h : FRow base w A n c fs) {p : Addr} {t : TypeId} {cs : Array Value} (hB : Blk w p.block t cs) (hb : base ≤ p.block) (h1 : t ≠ 3) (h2 : ∀ g, (Value.slice A n c).ownBlock = some g → g ≠ p.block) (u : Value) : FRow base (w.setCell p u) A n c fs := by
  obtain ⟨ds, e1, e2, e3, e4⟩ := h
  exact ⟨ds, e1, e2, e3.keep_far h2 u, fun j x f hx hf => (e4 j x f hx hf).kt (T := [t]) ((Kt.refl _ _ _).set (.inl ⟨hb, fun t' cs' hB' => by simp [(Blk.type hB' hB).1]⟩) u) (by simpa using Ne.symm h1)⟩
theorem FRow.lt {base n c : Nat} {w : World} {A : Option Addr} {fs : List FI} (h : FRow base w A n c fs) : ∀ g, (Value.slice A n c).ownBlock = some g → base ≤ g ∧ g < w.heap.size := fun g hg => by
  obtain ⟨hb, cs, hB⟩ := h.blk hg
  exact ⟨hb, hB.lt⟩
theorem fis_num {lo base j n : Nat} {w : World} {A : Option Addr} {fs : List FI} (h : FisAt lo base w A j fs) (e : j = n) : FisAt lo base w A n fs := e ▸ h
set_option maxRecDepth 100000 in
set_option maxHeartbeats 4000000 in
theorem own_any (e c i p x : Int) (A1 A2 : Option Addr) (n1 c1 n2 c2 lo base lo2 base2 : Nat) (fs : List FI) (is : List Int) (w : World) (hf : FisAt lo base w A1 n1 fs) (hi : IntsAt lo2 base2 w A2 n2 is) (hn1 : n1 ≤ 1000000) (hn2 : n2 ≤ 1000000) (hfl : ∀ f ∈ fs, f.ls.length ≤ 1000000) :
    Calls Tryd.prog 11 #[.agg (partC e c i p x A1 n1 c1 A2 n2 c2)] w fun r w' => ∃ B1 d1 B2 d2, r = .returned (.agg (partC e c i p x B1 n1 d1 B2 n2 d2)) ∧ FisAt w.heap.size w.heap.size w' B1 n1 fs ∧ IntsAt w.heap.size w.heap.size w' B2 n2 is ∧ Below w.heap.size w w' := by
  have HF := hide hf
  have HI := hide hi
  have HFL := hide hfl
  have HL1 := hide hf.len
  have HL2 := hide (IntsAt.len hi)
  have i0 := fun w => int_slice0 w
  have lf := fun w xs h => one_slice etyF w xs h (by decide)
  clear hf hi hfl
  unfold partC
  go_enter Tryd.func11, Tryd.ntmps11
  obtain ⟨bs, hbs⟩ : ∃ b, b = w.heap.size := ⟨_, rfl⟩
  go_upto_region 1 with fail
  obtain ⟨w2, hw2⟩ : ∃ W, W = ((w.alloc (.cells #[.int .i64 e, .int .i64 c, .int .i64 i, .int .i64 p, .int .i64 x, .slice A1 n1 c1, .slice A2 n2 c2] 25)).alloc (.cells #[.int .i64 0, .int .i64 0, .int .i64 0, .int .i64 0, .int .i64 0, .slice none 0 0, .slice none 0 0] 25)) := ⟨_, rfl⟩
  have K2 : Hid (Blk w2 w.heap.size 25 #[.int .i64 e, .int .i64 c, .int .i64 i, .int .i64 p, .int .i64 x, .slice A1 n1 c1, .slice A2 n2 c2]) := hide (by rw [hw2]; exact (Blk.new _ _ _).alloc _)
  have R2 : Hid (Blk w2 (w.heap.size + 1) 25 #[.int .i64 0, .int .i64 0, .int .i64 0, .int .i64 0, .int .i64 0, .slice none 0 0, .slice none 0 0]) := hide (by
    rw [hw2]
    have := Blk.new (w.alloc (.cells #[.int .i64 e, .int .i64 c, .int .i64 i, .int .i64 p, .int .i64 x, .slice A1 n1 c1, .slice A2 n2 c2] 25)) 25 #[.int .i64 0, .int .i64 0, .int .i64 0, .int .i64 0, .int .i64 0, .slice none 0 0, .slice none 0 0]
    rwa [World.size_alloc] at this)
  have B2 : Hid (Below w.heap.size w w2) := hide (by rw [hw2]; exact ((Below.refl _ _).alloc (Nat.le_refl _) _).alloc (by simp) _)
  rw [← hw2]
  clear hw2
  have z6 := (K2.out.alloc (.cells #[] 3)).cell 6
  simp only [List.getElem?_toArray, List.getElem?_cons_succ, List.getElem?_cons_zero] at z6
  go_upto_region 2 with (
    at_builtin
    refine wpList_app _ rfl (.tmp 6) (.tmp 8) _ rfl etyJ w.heap.size (.slice (some ⟨w2.heap.size, 0, none⟩) 0 0) 0 [] rfl (own_nw B2.out.size) _ A2 n2 c2 (intC is) rfl ((RwAt.below HI.out B2.out).below ((Below.refl _ _).alloc (Nat.le_refl _) _)).sl (intC_one is) (by omega) (Nat.le_trans B2.out.size (by simp)) ?_
    intro A3 c3 w3 hown hg hnew
    have B3 := hide (bel_gr (B2.out.alloc B2.out.size (.cells #[] 3)) hg (fun g hg => by simp [Value.ownBlock] at hg; have := B2.out.size; omega) (Nat.le_trans B2.out.size (by simp)))
    have K3 : Hid (Blk w3 w.heap.size 25 #[.int .i64 e, .int .i64 c, .int .i64 i, .int .i64 p, .int .i64 x, .slice A1 n1 c1, .slice A2 n2 c2]) := hide ((hg.block _ (by have := K2.out.lt; simp; omega) (fun e => by simp [Value.ownBlock] at e; have := K2.out.lt; omega)).trans (K2.out.alloc _))
    have R3 : Hid (Blk w3 (w.heap.size + 1) 25 #[.int .i64 0, .int .i64 0, .int .i64 0, .int .i64 0, .int .i64 0, .slice none 0 0, .slice none 0 0]) := hide ((hg.block _ (by have := R2.out.lt; simp; omega) (fun e => by simp [Value.ownBlock] at e; have := R2.out.lt; omega)).trans (R2.out.alloc _))
    have I3 : Hid (IntsAt w.heap.size w.heap.size w3 A3 n2 is) := hide (by have := RwAt.of_own (base := w.heap.size) hown; simpa using this)
    have f6 := K3.out.frozen 6
    have y6 := K3.out.cell 6
    simp only [List.getElem?_toArray, List.getElem?_cons_succ, List.getElem?_cons_zero] at y6
    clear hown hg hnew)
  try simp only [Nat.zero_add]
  obtain ⟨w4, hw4⟩ : ∃ W, W = w3.setCell ⟨w.heap.size, 6, none⟩ (.slice A3 n2 c3) := ⟨_, rfl⟩
  have B4 : Hid (Below w.heap.size w w4) := hide (by rw [hw4]; exact B3.out.setCell (p := ⟨w.heap.size, 6, none⟩) (Nat.le_refl _) _)
  have K4 : Hid (Blk w4 w.heap.size 25 #[.int .i64 e, .int .i64 c, .int .i64 i, .int .i64 p, .int .i64 x, .slice A1 n1 c1, .slice A3 n2 c3]) := hide (by rw [hw4]; exact K3.out.set 6 _)
  have R4 : Hid (Blk w4 (w.heap.size + 1) 25 #[.int .i64 0, .int .i64 0, .int .i64 0, .int .i64 0, .int .i64 0, .slice none 0 0, .slice none 0 0]) := hide (by rw [hw4]; exact R3.out.far (p := ⟨w.heap.size, 6, none⟩) (by show w.heap.size + 1 ≠ w.heap.size; omega) _)
  have I4 : Hid (IntsAt w.heap.size w.heap.size w4 A3 n2 is) := hide (by
    rw [hw4]
    exact RwAt.kt I3.out (T := [25]) ((Kt.refl _ _ _).set (p := ⟨w.heap.size, 6, none⟩) (.inl ⟨Nat.le_refl _, fun t cs hB => by simp [(Blk.type hB K3.out).1]⟩) _) (by decide))
  rw [← hw4]
  clear hw4 y6 f6 z6 K3 R3 B3 I3 K2 R2 B2
  have z5 := K4.out.cell 5
  simp only [List.getElem?_toArray, List.getElem?_cons_succ, List.getElem?_cons_zero] at z5
  go_wp2_with fail
  clear z5
  go_loopw [3, 14] (fun v y wr => ∃ (j : Nat) (A : Option Addr) (d : Nat), j ≤ n1 ∧ y = .int .i64 (j : Int) ∧ v = .slice A j d ∧ FRow w.heap.size wr A j d (fs.take j) ∧ Kt [46] w.heap.size w4 wr) (fun _ y _ => n1 - (intOf y).toNat)
  case atStart => exact ⟨0, none, 0, Nat.zero_le _, rfl, rfl, ⟨[], rfl, rfl, World.ownsRow_nil _ _ _ _, by simp⟩, Kt.refl _ _ _⟩
  case round =>
    obtain ⟨j, A, d, hj, rfl, rfl, hR, hK⟩ := hrel
    have HR := hide hR
    have HK := hide hK
    have HB := hide (B4.out.trans (hK.below B4.out.size))
    clear hR hK
    by_cases hlt : j < n1
    · obtain ⟨b, off, f, A5, c5, hA, hFr, hfi, hI5, q0, q1, q2⟩ := (HF.out.below HB.out).at hlt
      subst hA
      have HFI := hide hfi
      have hlb := HFL.out f (List.mem_of_getElem? hfi)
      have HI5 := hide hI5
      obtain ⟨m5, hm5⟩ : ∃ n, n = f.ls.length := ⟨_, rfl⟩
      rw [← hm5] at q2 hlb HI5
      have HM5 := hide hm5
      clear hfi hI5 hFr hm5
      have hjs : (j : Int) < (n1 : Int) := by omega
      have hw64 : IntKind.i64.wrap (j : Int) = (j : Int) := by rw [IntKind.wrap_i64]; omega
      go_upto_region 6 with fail
      obtain ⟨w5, hw5⟩ : ∃ W, W = wr.alloc (.cells #[.int .i64 f.ino, .int .i64 f.ver, .slice A5 m5 c5] 46) := ⟨_, rfl⟩
      have S5 : Hid (w5.heap.size = wr.heap.size + 1) := hide (by rw [hw5]; simp)
      have X5 : Hid (Blk w5 wr.heap.size 46 #[.int .i64 f.ino, .int .i64 f.ver, .slice A5 m5 c5]) := hide (by rw [hw5]; exact Blk.new _ _ _)
      have R5 : Hid (FRow w.heap.size w5 A j d (fs.take j)) := hide (by rw [hw5]; exact HR.out.alloc _)
      have KT5 : Hid (Kt [46] w.heap.size w4 w5) := hide (by rw [hw5]; exact HK.out.alloc _)
      have B5 : Hid (Below w.heap.size w w5) := hide (B4.out.trans (KT5.out.below B4.out.size))
      have I5 : Hid (IntsAt lo base w5 A5 m5 f.ls) := hide (by rw [hw5]; exact RwAt.below HI5.out ((Below.refl _ _).alloc (Nat.le_refl _) _))
      rw [← hw5]
      clear hw5
      have x2 := (X5.out.alloc (.cells #[] 3)).cell 2
      simp only [List.getElem?_toArray, List.getElem?_cons_succ, List.getElem?_cons_zero] at x2
      have LT5 := hide R5.out.lt
      go_upto_region 7 with (
        at_builtin
        refine wpList_app _ rfl (.tmp 18) (.tmp 20) _ rfl etyJ w.heap.size (.slice (some ⟨w5.heap.size, 0, none⟩) 0 0) 0 [] rfl (own_nw B5.out.size) _ A5 m5 c5 (intC f.ls) rfl (RwAt.below I5.out ((Below.refl _ _).alloc (Nat.le_refl _) _)).sl (intC_one _) (by omega) (Nat.le_trans B5.out.size (by simp)) ?_
        intro A6 c6 w6 hown hg hnew
        have K6 : Hid (Kt [46] w.heap.size w5 w6) := hide (Kt.of_below (bel_gr ((Below.refl w5.heap.size w5).alloc (Nat.le_refl _) (.cells #[] 3)) hg (fun g hg => by simp [Value.ownBlock] at hg; omega) (by simp)))
        have BB6 : Hid (Below w5.heap.size w5 w6) := hide (bel_gr ((Below.refl w5.heap.size w5).alloc (Nat.le_refl _) (.cells #[] 3)) hg (fun g hg => by simp [Value.ownBlock] at hg; omega) (by simp))
        have X6 := hide (X5.out.below BB6.out)
        have R6 := hide (R5.out.below BB6.out)
        have I6 : Hid (IntsAt w.heap.size w.heap.size w6 A6 m5 f.ls) := hide (by have := RwAt.of_own (base := w.heap.size) hown; simpa using this)
        have f2 := X6.out.frozen 2
        have y2 := X6.out.cell 2
        simp only [List.getElem?_toArray, List.getElem?_cons_succ, List.getElem?_cons_zero] at y2
        clear hown hg hnew)
      try simp only [Nat.zero_add]
      have BX := hide (HB.out.size)
      obtain ⟨w7, hw7⟩ : ∃ W, W = w6.setCell ⟨wr.heap.size, 2, none⟩ (.slice A6 m5 c6) := ⟨_, rfl⟩
      have KS : Hid (Kt [46] w.heap.size w6 w7) := hide (by rw [hw7]; exact (Kt.refl _ _ _).set (p := ⟨wr.heap.size, 2, none⟩) (.inl ⟨BX.out, fun t cs hB => by simp [(Blk.type hB X6.out).1]⟩) _)
      have X7 : Hid (Blk w7 wr.heap.size 46 #[.int .i64 f.ino, .int .i64 f.ver, .slice A6 m5 c6]) := hide (by rw [hw7]; exact X6.out.set 2 _)
      have R7 : Hid (FRow w.heap.size w7 A j d (fs.take j)) := hide (by
        rw [hw7]
        exact R6.out.far2 (p := ⟨wr.heap.size, 2, none⟩) X6.out BX.out (by decide) (fun g hg => by have := (HR.out.lt g hg).2; show g ≠ wr.heap.size; omega) _)
      have I7 : Hid (IntsAt w.heap.size w.heap.size w7 A6 m5 f.ls) := hide (RwAt.kt I6.out KS.out (by decide))
      have K7 := hide (KT5.out.trans (K6.out.trans KS.out))
      have B7 := hide (B4.out.trans (K7.out.below B4.out.size))
      rw [← hw7]
      clear hw7 x2 y2 f2 K6 KS X6 R6 I6 BB6
      have v0 := X7.out.cell 0
      have v1 := X7.out.cell 1
      have v2 := X7.out.cell 2
      simp only [List.getElem?_toArray, List.getElem?_cons_succ, List.getElem?_cons_zero] at v0 v1 v2
      go_wp2_with (
        at_builtin
        obtain ⟨cs, e1, e2, e3, e4⟩ := R7.out
        have HH := hide (And.intro e1 e2)
        have E4 := hide (fun (q : Nat) (y : List Value) (g : FI) (hx : cs[q]? = some y) (hg : (fs.take j)[q]? = some g) => (e4 q y g hx hg).kt (T := []) (Kt.of_below ((Below.refl w7.heap.size w7).alloc (Nat.le_refl _) (.cells #[.int .i64 f.ino, .int .i64 f.ver, .slice A6 m5 c6] 46))) (by simp))
        have E3 := hide (own_bel e3 ((Below.refl w7.heap.size w7).alloc (Nat.le_refl _) (.cells #[.int .i64 f.ino, .int .i64 f.ver, .slice A6 m5 c6] 46)))
        clear e1 e2 e3 e4
        refine wpList_appK rfl (.tmp 23) (.tmp 25) _ rfl etyF w.heap.size (.slice A j d) j cs.flatten rfl E3.out (w7.heap.size + 1) (some ⟨w7.heap.size, 0, none⟩) 1 1 [.int .i64 f.ino, .int .i64 f.ver, .slice A6 m5 c6] rfl (slc_new w7 [.int .i64 f.ino, .int .i64 f.ver, .slice A6 m5 c6] _ rfl) (by intro u hu; simp only [List.mem_cons, List.not_mem_nil, or_false] at hu; rcases hu with rfl | rfl | rfl <;> rfl) (by omega) (Nat.le_trans B7.out.size (by simp)) ?_
        intro A8 c8 w8 hown hg hnew
        have R8 : Hid (FRow w.heap.size w8 A8 (j + 1) c8 (fs.take (j + 1))) := hide (by
          have hF8 : FiC w.heap.size w.heap.size (w7.alloc (.cells #[.int .i64 f.ino, .int .i64 f.ver, .slice A6 m5 c6] 46)) [.int .i64 f.ino, .int .i64 f.ver, .slice A6 m5 c6] f := ⟨A6, c6, by unfold fiV; rw [← HM5.out], by rw [← HM5.out]; exact RwAt.below I7.out ((Below.refl _ _).alloc (Nat.le_refl _) _)⟩
          rw [List.take_add_one, HFI.out]
          exact FRow.app (gs := [f]) (ds := [[.int .i64 f.ino, .int .i64 f.ver, .slice A6 m5 c6]]) HH.out.1 HH.out.2 E3.out E4.out rfl rfl (fun q y g hy hg => by
            cases q with
            | zero =>
              simp only [List.getElem?_cons_zero, Option.some.injEq] at hy hg
              subst hy hg
              exact hF8
            | succ q => simp at hy) rfl (by simpa using hown) hg)
        have K8 := hide (K7.out.trans ((Kt.of_below ((Below.refl w7.heap.size w7).alloc (Nat.le_refl _) (.cells #[.int .i64 f.ino, .int .i64 f.ver, .slice A6 m5 c6] 46))).trans (Kt.gr (T := [46]) hg (fun g hg => by
          obtain ⟨hb, cs', hB⟩ := FRow.blk ⟨cs, HH.out.1, HH.out.2, E3.out, E4.out⟩ hg
          exact ⟨hb, _, cs', hB, by simp⟩))))
        clear hown hg hnew)
      go_roundw
      case rel => exact ⟨j + 1, A8, c8, by omega, by go_num, rfl, R8.out, K8.out⟩
      case measure => simp [intOf]; omega
    · have hjn : j = n1 := by omega
      have X9 := hide (K4.out.kt HK.out (by decide))
      have Z9 := hide (R4.out.kt HK.out (by decide))
      have I9 := hide (RwAt.kt I4.out HK.out (by decide))
      have F9 : Hid (FisAt w.heap.size w.heap.size wr A j fs) := hide (by
        have := HR.out.fis
        rw [hjn, List.take_of_length_le (by rw [HL1.out]; exact Nat.le_refl _)] at this
        rw [hjn]
        exact this)
      have f5 := X9.out.frozen 5
      have z5 := X9.out.cell 5
      simp only [List.getElem?_toArray, List.getElem?_cons_succ, List.getElem?_cons_zero] at z5
      have HJ := hide hjn
      clear hjn
      go_upto_region 10 with fail
      obtain ⟨w5, hw5⟩ : ∃ W, W = wr.setCell ⟨w.heap.size, 5, none⟩ (.slice A j d) := ⟨_, rfl⟩
      have KS : Hid (Kt [25] w.heap.size wr w5) := hide (by rw [hw5]; exact (Kt.refl _ _ _).set (p := ⟨w.heap.size, 5, none⟩) (.inl ⟨Nat.le_refl _, fun t cs hB => by simp [(Blk.type hB X9.out).1]⟩) _)
      have Y5 : Hid (Blk w5 w.heap.size 25 #[.int .i64 e, .int .i64 c, .int .i64 i, .int .i64 p, .int .i64 x, .slice A j d, .slice A3 n2 c3]) := hide (by rw [hw5]; exact X9.out.set 5 _)
      have Z5 : Hid (Blk w5 (w.heap.size + 1) 25 #[.int .i64 0, .int .i64 0, .int .i64 0, .int .i64 0, .int .i64 0, .slice none 0 0, .slice none 0 0]) := hide (by rw [hw5]; exact Z9.out.far (p := ⟨w.heap.size, 5, none⟩) (by show w.heap.size + 1 ≠ w.heap.size; omega) _)
      have I5 := hide (RwAt.kt I9.out KS.out (by decide))
      have F5 := hide (F9.out.kt KS.out (by decide) (by decide))
      have B5 := hide (HB.out.trans (KS.out.below HB.out.size))
      rw [← hw5]
      clear hw5 z5 f5
      have y0 := Y5.out.cell 0
      have y1 := Y5.out.cell 1
      have y2 := Y5.out.cell 2
      have y3 := Y5.out.cell 3
      have y4 := Y5.out.cell 4
      have y5 := Y5.out.cell 5
      have y6 := Y5.out.cell 6
      have s0 := Z5.out.cell 0
      have s1 := Z5.out.cell 1
      have s2 := Z5.out.cell 2
      have s3 := Z5.out.cell 3
      have s4 := Z5.out.cell 4
      have s5 := Z5.out.cell 5
      have s6 := Z5.out.cell 6
      have t0 := Z5.out.frozen 0
      have t1 := Z5.out.frozen 1
      have t2 := Z5.out.frozen 2
      have t3 := Z5.out.frozen 3
      have t4 := Z5.out.frozen 4
      have t5 := Z5.out.frozen 5
      have t6 := Z5.out.frozen 6
      simp only [List.getElem?_toArray, List.getElem?_cons_succ, List.getElem?_cons_zero] at y0 y1 y2 y3 y4 y5 y6 s0 s1 s2 s3 s4 s5 s6
      go_wp2_with fail
      have KF := (((((((Z5.out.set 0 (.int .i64 e)).set 1 (.int .i64 c)).set 2 (.int .i64 i)).set 3 (.int .i64 p)).set 4 (.int .i64 x)).set 5 (.slice A j d)).set 6 (.slice A3 n2 c3))
      simp only [List.setIfInBounds_toArray, List.set_cons_zero, List.set_cons_succ] at KF
      have hZ : ∀ (W : World) (q : Nat) (u : Value), (∃ cs, Blk W (w.heap.size + 1) 25 cs) → Kt [25] w.heap.size W (W.setCell ⟨w.heap.size + 1, q, none⟩ u) ∧ ∃ cs, Blk (W.setCell ⟨w.heap.size + 1, q, none⟩ u) (w.heap.size + 1) 25 cs := fun W q u ⟨cs, h⟩ =>
        ⟨(Kt.refl _ _ _).set (p := ⟨w.heap.size + 1, q, none⟩) (.inl ⟨Nat.le_succ _, fun t cs' hB => by simp [(Blk.type hB h).1]⟩) _, _, h.set q u⟩
      obtain ⟨k0, h0⟩ := hZ w5 0 (.int .i64 e) ⟨_, Z5.out⟩
      obtain ⟨k1, h1⟩ := hZ _ 1 (.int .i64 c) h0
      obtain ⟨k2, h2⟩ := hZ _ 2 (.int .i64 i) h1
      obtain ⟨k3, h3⟩ := hZ _ 3 (.int .i64 p) h2
      obtain ⟨k4, h4⟩ := hZ _ 4 (.int .i64 x) h3
      obtain ⟨k5, h5⟩ := hZ _ 5 (.slice A j d) h4
      obtain ⟨k6, h6⟩ := hZ _ 6 (.slice A3 n2 c3) h5
      have KK := hide (((((((k0.trans k1).trans k2).trans k3).trans k4).trans k5).trans k6))
      refine bodyPost_ret (results_cell_row (g := w.heap.size + 1) (cs := #[.int .i64 e, .int .i64 c, .int .i64 i, .int .i64 p, .int .i64 x, .slice A j d, .slice A3 n2 c3]) (t := 25) (fr := (0, 0)) rfl _ _ (hp := rfl) (hg := KF) (hu := Tryd.underlying25) (hd := rfl) (hi := by kernel_rfl)) rfl ?_
      have F6 := F5.out.kt KK.out (by decide) (by decide)
      replace F6 := fis_num F6 HJ.out
      have hE : Ending.returned (Value.agg #[.int .i64 e, .int .i64 c, .int .i64 i, .int .i64 p, .int .i64 x, .slice A j d, .slice A3 n2 c3]) = Ending.returned (Value.agg #[.int .i64 e, .int .i64 c, .int .i64 i, .int .i64 p, .int .i64 x, .slice A n1 d, .slice A3 n2 c3]) := by rw [HJ.out]
      have I6 := RwAt.kt I5.out KK.out (by decide)
      have B6 := B5.out.trans (KK.out.below B5.out.size)
      exact ⟨A, d, A3, c3, hE, F6, I6, B6⟩
end Go.Proofs.YtbamdibpkkponaaDoor

/- For the summary's laws: Encode in one word; bytes that came in. -/
namespace Go.Proofs.YtbamdibpkkponaaDoor
open Go.RowKit

def EncAns (v : PV) (s base : Nat) (r : Ending) (w' : World) : Prop :=
  (v.ck = 0 ∧ ∃ A k, r = .returned (.tuple #[.slice A 128 k, .int .i64 0]) ∧ OwnBy w' base A 128 k (v.enc s)) ∨ (v.ck ≠ 0 ∧ r = .returned (.tuple #[.slice none 0 0, .int .i64 v.ck]))
theorem enc_any (v : PV) (sum : Nat) (hsum : sum < 4294967296) (A1 A2 : Option Addr) (n1 c1 n2 c2 lo base lo2 base2 : Nat) (w : World) (sp : SpanAt w) (hf : FisAt lo base w A1 n1 v.fs) (hi : IntsAt lo2 base2 w A2 n2 v.is) (hn1 : n1 ≤ 1000) (hn2 : n2 ≤ 100000) (hls : lsN v.fs ≤ 100000)
    (h64 : ∀ f ∈ v.fs, ∀ x ∈ f.ls, I64 x) :
    Calls Tryd.prog 12 #[.agg (partC v.e v.c v.i v.p v.x A1 n1 c1 A2 n2 c2), .int .u32 (sum : Int)] w fun r w' => EncAns v sum w.heap.size r w' ∧ Below w.heap.size w w' := by
  by_cases h : v.ck = 0
  · refine (enc_good v.e v.c v.i v.p v.x sum hsum A1 A2 n1 c1 n2 c2 lo base lo2 base2 v.fs v.is w sp hf hi h64 h).mono ?_
    rintro r w' ⟨A, k, rfl, ho, hb⟩
    exact ⟨.inl ⟨h, A, k, rfl, ho⟩, hb⟩
  · refine (enc_bad v.e v.c v.i v.p v.x sum A1 A2 n1 c1 n2 c2 lo base lo2 base2 v.fs v.is w sp hf hi hn1 hn2 hls h64 h).mono ?_
    rintro r w' ⟨rfl, hb⟩
    exact ⟨.inr ⟨h, rfl⟩, hb⟩
theorem by_of_rdA {w : World} {m : Nat} {v : Value} (h : Rd Tryd.prog w (m + 2) 30 [v]) : ∃ A n c l, v = .slice A n c ∧ n ≤ c ∧ c ≤ 9223372036854775807 ∧ ByT 0 w.heap.size w A n l := by
  obtain ⟨A, n, c, rows, rfl, hl, hm, hs, hr⟩ := slk_of_rd (n := m + 1) (k := 1) Tryd.underlying30 (by kernel_rfl) h
  obtain ⟨l, rfl⟩ : ∃ l : List UInt8, rows = l.map (fun x => [Value.int .u8 (x.toNat : Int)]) := by
    clear hs hm hl h
    induction rows with
    | nil => exact ⟨[], rfl⟩
    | cons r rows ih =>
      obtain ⟨l, hl⟩ := ih (fun x hx => hr x (by simp [hx]))
      obtain ⟨x, rfl, hx⟩ := rd_int Tryd.underlying5 (hr r (by simp))
      have hb : 0 ≤ x ∧ x ≤ 255 := by
        have := hx
        simp [Lit.wf, IntKind.min, IntKind.max, IntKind.bits, IntKind.signed] at this
        omega
      refine ⟨UInt8.ofNat x.toNat :: l, ?_⟩
      rw [hl, List.map_cons]
      congr 3
      rw [UInt8.toNat_ofNat']
      omega
  have h5 := rw_of_slk (t := 5) hs (by decide)
  refine ⟨A, n, c, l, rfl, hl, hm, ?_⟩
  have : (l.map fun x => [Value.int .u8 (x.toNat : Int)]).flatten = u8s l := by
    clear h5 hs hr h
    induction l with
    | nil => rfl
    | cons x l ih => rw [List.map_cons, List.flatten_cons, ih]; rfl
  rwa [this] at h5
theorem zeroPart_eq : zeroPart = .agg (partC 0 0 0 0 0 none 0 0 none 0 0) := rfl
/-- Same, of two summaries that are known. -/
theorem same_pv (v u : PV) (A1 A2 B1 B2 : Option Addr) (n1 c1 n2 c2 m1 d1 m2 d2 lo base lo' base' lo2 base2 lo2' base2' : Nat) (w : World)
    (hf : FisAt lo base w A1 n1 v.fs) (hg : FisAt lo' base' w B1 m1 u.fs) (hi : IntsAt lo2 base2 w A2 n2 v.is) (hj : IntsAt lo2' base2' w B2 m2 u.is)
    (hn1 : n1 ≤ 1000000) (hm1 : m1 ≤ 1000000) (hn2 : n2 ≤ 1000000) (hm2 : m2 ≤ 1000000) (hfl : ∀ f ∈ v.fs, f.ls.length ≤ 1000000) (hgl : ∀ f ∈ u.fs, f.ls.length ≤ 1000000) :
    Calls Tryd.prog 19 #[.agg (partC v.e v.c v.i v.p v.x A1 n1 c1 A2 n2 c2), .agg (partC u.e u.c u.i u.p u.x B1 m1 d1 B2 m2 d2)] w fun r w' => r = .returned (.bool (decide (v = u))) ∧ Below w.heap.size w w' := by
  refine (same_any v.e v.c v.i v.p v.x u.e u.c u.i u.p u.x A1 A2 B1 B2 n1 c1 n2 c2 m1 d1 m2 d2 lo base lo' base' lo2 base2 lo2' base2' v.fs u.fs v.is u.is w hf hg hi hj hn1 hm1 hn2 hm2 hfl hgl).mono ?_
  rintro r w' ⟨rfl, hb⟩
  refine ⟨?_, hb⟩
  congr 2
  apply decide_eq_decide.2
  unfold sameQ
  constructor
  · rintro ⟨⟨h1, h2, h3, h4, h5⟩, h6, h7⟩
    cases v; cases u
    simp_all
  · rintro rfl
    exact ⟨⟨rfl, rfl, rfl, rfl, rfl⟩, rfl, rfl⟩
theorem lsN_all {fs : List FI} {M : Nat} (h : lsN fs ≤ M) : ∀ f ∈ fs, f.ls.length ≤ M := fun f hf => by
  obtain ⟨j, hj, e⟩ := List.getElem_of_mem hf
  have := lsN_mem (fs := fs) (j := j) (f := f) (by rw [List.getElem?_eq_getElem hj, e])
  omega
/-- What a good summary's lists may be. -/
theorem PV.bd {v : PV} (h : v.ck = 0) : v.fs.length ≤ 19 ∧ v.is.length ≤ 78 ∧ lsN v.fs ≤ 39 ∧ (∀ f ∈ v.fs, ∀ x ∈ f.ls, I64 x) := by
  obtain ⟨hg, hz⟩ := PV.gd h
  obtain ⟨h1, h2⟩ := szN_fs hz
  refine ⟨h1, h2, by unfold szN at hz; omega, fun f hf x hx => ?_⟩
  have := gdF_ls (hg.2.1 f hf) x hx
  unfold I64
  omega
end Go.Proofs.YtbamdibpkkponaaDoor

/- What an argument's reading says of the cells, with the form's own reach: each slice and text takes at most 140737488351232 bytes. -/
namespace Go.Proofs.YtbamdibpkkponaaDoor
open Go.RowKit Go.WideShapes

def Rz (P : Program) (w : World) : Nat → TypeId → List Value → Prop
  | 0, _, _ => True
  | n + 1, t, cs =>
    match P.underlying t with
    | some (.struct fs) => cs.length = P.cellsOf t ∧ ∀ (j : Nat) (f : Field), fs[j]? = some f → Rz P w n f.type ((cs.drop f.offset).take (P.cellsOf f.type))
    | some (.array k e) => cs.length = P.cellsOf t ∧ ∀ i, i < k → Rz P w n e ((cs.drop (i * P.cellsOf e)).take (P.cellsOf e))
    | some (.int k) => ∃ m, cs = [.int k m] ∧ (Lit.int k m).wf = true
    | some .bool => ∃ b, cs = [.bool b]
    | some .string => ∃ s : ByteArray, cs = [.string s] ∧ s.size ≤ 140737488351232
    | some (.slice e) => cs = [.slice none 0 0] ∨ ∃ a len cap, cs = [.slice (some a) len cap] ∧ len ≤ cap ∧ cap ≤ maxLen ∧ cap * P.bytesOf e ≤ 140737488351232 ∧
        ∀ i, i < len → ∃ cs', cs'.length = P.cellsOf e ∧ (∀ j, j < P.cellsOf e → w.cell? (a.add (i * P.cellsOf e + j)) = cs'[j]?) ∧ Rz P w n e cs'
    | _ => True

theorem Rz.rd {P : Program} {w : World} : ∀ {n : Nat} {t : TypeId} {cs : List Value}, Rz P w n t cs → Rd P w n t cs
  | 0, _, _, _ => trivial
  | n + 1, t, cs, h => by
    unfold Rz at h
    unfold Rd
    split at h
    · rename_i fs ht
      simp only [ht]
      exact ⟨h.1, fun j f hj => (h.2 j f hj).rd⟩
    · rename_i k e ht
      simp only [ht]
      exact ⟨h.1, fun i hi => (h.2 i hi).rd⟩
    · rename_i k ht
      simp only [ht]
      exact h
    · rename_i ht
      simp only [ht]
      exact h
    · rename_i ht
      simp only [ht]
      obtain ⟨s, h1, h2⟩ := h
      exact ⟨s, h1, by simp only [maxLen]; omega⟩
    · rename_i e ht
      simp only [ht]
      rcases h with h | ⟨a, len, cap, h1, h2, h3, _, h4⟩
      · exact .inl h
      · refine .inr ⟨a, len, cap, h1, h2, h3, fun i hi => ?_⟩
        obtain ⟨cs', c1, c2, c3⟩ := h4 i hi
        exact ⟨cs', c1, c2, c3.rd⟩
    · split <;> first | trivial | (exfalso; simp_all)

theorem weightsAll_mem {H : Type} {P : Program} {e : TypeId} : ∀ {ds : List (DataW H)} {i : Nat} {d : DataW H}, ds[i]? = some d → ∀ n ∈ d.weights P e, n ∈ DataW.weightsAll P e ds
  | d0 :: ds, 0, d, hd, n, hn => by
    simp only [List.getElem?_cons_zero, Option.some.injEq] at hd
    subst hd
    simp only [DataW.weightsAll, List.mem_append]
    exact Or.inl hn
  | d0 :: ds, j + 1, d, hd, n, hn => by
    simp only [List.getElem?_cons_succ] at hd
    simp only [DataW.weightsAll, List.mem_append]
    exact Or.inr (weightsAll_mem hd n hn)
  | [], _, _, hd, _, _ => by simp at hd

section
variable {H : Type} {enc : TypeId × Value → H} {P : Program} {w : World} {base : Nat} {held : Bool}
theorem rz_of_trod (n : Nat) : ∀ {fuel : Nat} {t : TypeId} {cs : List Value} {x : DataW H × List MemPlace}, DataW.trod enc P w base (fun _ => true) held fuel t cs = some x → (∀ n ∈ x.1.weights P t, n ≤ 140737488351232) → Rz P w n t cs := by
  induction n with
  | zero => intros; trivial
  | succ n ih =>
    intro fuel t cs x h hw
    unfold Rz
    split
    · rename_i fs ht
      obtain ⟨xs, m, _, rfl, hl, hxl, hf⟩ := DataW.trod_struct ht h
      refine ⟨hl, fun j f hj => ?_⟩
      have h1 := hf j f hj
      have hjl : j < xs.length := by rw [hxl]; exact (Array.getElem?_eq_some_iff.1 hj).1
      rw [List.getElem?_eq_getElem hjl] at h1
      refine ih h1 fun k hk => hw k ?_
      simp only [DataW.weights, ht]
      exact DataW.weights_mem_each (j := j) (t := f.type) (d := (xs[j]).1) (by rw [List.getElem?_map, Array.getElem?_toList, hj]; rfl) (by rw [List.getElem?_map, List.getElem?_eq_getElem hjl]; rfl) k hk
    · rename_i k e ht
      obtain ⟨xs, m, _, rfl, hl, hxl, hf⟩ := DataW.trod_array ht h
      refine ⟨hl, fun i hi => ?_⟩
      have h1 := hf i hi
      rw [List.getElem?_eq_getElem (show i < xs.length by omega)] at h1
      refine ih h1 fun k hk => hw k ?_
      simp only [DataW.weights, ht]
      exact weightsAll_mem (i := i) (d := (xs[i]).1) (by rw [List.getElem?_map, List.getElem?_eq_getElem (show i < xs.length by omega)]; rfl) k hk
    · rename_i k ht
      obtain ⟨m, hcs, _, hw⟩ := DataW.trod_int ht h
      exact ⟨m, hcs, hw⟩
    · rename_i ht
      obtain ⟨b, hcs, _⟩ := DataW.trod_bool ht h
      exact ⟨b, hcs⟩
    · rename_i ht
      obtain ⟨s, hcs, rfl, hs⟩ := DataW.trod_string ht h
      exact ⟨s, hcs, by have := hw s.data.toList.length (by simp [DataW.weights]); simpa using this⟩
    · rename_i e ht
      rcases Go.Deep.open_slice ht h with ⟨h0, _⟩ | ⟨a, len, cap, m, n', D, Pl, hcs, _, hl, hm, hmm, rfl, hi⟩
      · exact .inl h0
      · simp only [if_true] at hmm
        subst hmm
        refine .inr ⟨a, len, m, hcs, hl, hm, ?_, fun i hil => ?_⟩
        · have := hw (m * P.bytesOf e) (by simp [DataW.weights, ht, Nat.add_sub_cancel' hl])
          exact this
        · obtain ⟨cs', hc, ht'⟩ := hi i (by omega)
          obtain ⟨_, hcl, hat⟩ := World.cells?_some hc
          refine ⟨cs', hcl, fun j hj => by rw [← hat j hj, addr_add2], ih ht' fun k hk => hw k ?_⟩
          simp only [DataW.weights, ht, List.mem_cons, List.mem_append]
          exact .inr (.inl (weightsAll_mem (i := i) (d := D i) (by simp [hil]) k hk))
    · trivial
end

/-- So an argument reads. -/
def ArgZ (P : Program) (w : World) (t : TypeId) (v : Value) : Prop :=
  match P.underlying t with
  | some (.struct _) | some (.array _ _) => ∃ cs, v = .agg cs ∧ Rz P w 10 t cs.toList
  | _ => Rz P w 10 t [v]
theorem argz_of {H : Type} {enc : TypeId × Value → H} {P : Program} {w : World} {base : Nat} {held : Bool} {r : Reach} {b : Nat} {t : TypeId} {v : Value} {d : DataW H} {p : List MemPlace} (hv : Value.okWide P w r b t v) (h : DataW.Trod enc P w base (fun _ => true) held t v d p)
    (hw : ∀ n ∈ d.weights P t, n ≤ 140737488351232) : ArgZ P w t v := by
  obtain ⟨fuel, hf⟩ := h
  unfold ArgZ
  split
  · rename_i fs ht
    obtain ⟨cs, rfl, _⟩ := okWide_struct ht hv
    exact ⟨cs, rfl, rz_of_trod 10 hf hw⟩
  · rename_i k e ht
    simp only [Value.okWide, ht] at hv
    obtain ⟨cs, rfl, _⟩ := hv
    exact ⟨cs, rfl, rz_of_trod 10 hf hw⟩
  · rename_i h1 h2
    have hc : v.cells.toList = [v] := by
      cases v with
      | agg cs =>
        exfalso
        unfold Value.okWide at hv
        split at hv
        · rename_i fs hs; exact h1 _ hs
        · rename_i k e hs; exact h2 _ _ hs
        · unfold Cell.okWide at hv
          split at hv <;> first | (simp_all; done) | skip
          unfold Cell.ok at hv
          split at hv <;> simp_all
      | _ => rfl
    rw [hc] at hf
    exact rz_of_trod 10 hf hw
theorem sized_arg {H : Type} {P : Program} {ts : List TypeId} {ds : List (DataW H)} (h : (DataW.weightsEach P ts ds).all (· ≤ reachBytes) = true) (j : Nat) {t : TypeId} {d : DataW H} (ht : ts[j]? = some t) (hd : ds[j]? = some d) : ∀ n ∈ d.weights P t, n ≤ 140737488351232 := fun n hn => by
  have := List.all_eq_true.1 h n (DataW.weights_mem_each ht hd n hn)
  have := of_decide_eq_true this
  simp only [reachBytes] at this
  exact this

section
variable {P : Program} {w : World} {n : Nat} {t : TypeId} {cs : List Value}
theorem argz_one {v : Value} (h : ArgZ P w t v) {d : TypeDesc} (ht : P.underlying t = some d) (hs : ∀ fs, d ≠ .struct fs) (ha : ∀ k e, d ≠ .array k e) : Rz P w 10 t [v] := by
  unfold ArgZ at h
  split at h
  · rename_i fs hf; rw [ht] at hf; exact absurd (Option.some.inj hf) (hs _)
  · rename_i k e hf; rw [ht] at hf; exact absurd (Option.some.inj hf) (ha _ _)
  · exact h
theorem argz_agg {v : Value} (h : ArgZ P w t v) (ht : (∃ fs, P.underlying t = some (.struct fs)) ∨ ∃ k e, P.underlying t = some (.array k e)) : ∃ cs : Array Value, v = .agg cs ∧ Rz P w 10 t cs.toList := by
  unfold ArgZ at h
  rcases ht with ⟨fs, ht⟩ | ⟨k, e, ht⟩ <;> rw [ht] at h <;> exact h
theorem ArgZ.arg {v : Value} (h : ArgZ P w t v) : Arg P w t v := by
  unfold ArgZ at h
  unfold Arg
  split at h
  · rename_i ht; simp only [ht]; obtain ⟨cs, h1, h2⟩ := h; exact ⟨cs, h1, h2.rd⟩
  · rename_i ht; simp only [ht]; obtain ⟨cs, h1, h2⟩ := h; exact ⟨cs, h1, h2.rd⟩
  · split
    · exfalso; simp_all
    · exfalso; simp_all
    · exact h.rd
theorem rz_slice {e : TypeId} (ht : P.underlying t = some (.slice e)) (h : Rz P w (n + 1) t cs) :
    cs = [.slice none 0 0] ∨ ∃ a len cap, cs = [.slice (some a) len cap] ∧ len ≤ cap ∧ cap ≤ maxLen ∧ cap * P.bytesOf e ≤ 140737488351232 ∧
        ∀ i, i < len → ∃ cs', cs'.length = P.cellsOf e ∧ (∀ j, j < P.cellsOf e → w.cell? (a.add (i * P.cellsOf e + j)) = cs'[j]?) ∧ Rz P w n e cs' := by
  unfold Rz at h; rw [ht] at h; exact h
theorem rz_cap {e : TypeId} {A : Option Addr} {len cap : Nat} (ht : P.underlying t = some (.slice e)) (h : Rz P w (n + 1) t [.slice A len cap]) : cap * P.bytesOf e ≤ 140737488351232 := by
  rcases rz_slice ht h with h | ⟨a, l, c, h, _, _, hb, _⟩
  · simp at h; obtain ⟨_, _, rfl⟩ := h; omega
  · simp at h; obtain ⟨_, _, rfl⟩ := h; exact hb
theorem rz_len {fs : Array Field} (ht : P.underlying t = some (.struct fs)) (h : Rz P w (n + 1) t cs) : cs.length = P.cellsOf t := by
  unfold Rz at h; rw [ht] at h; exact h.1
theorem rz_field {fs : Array Field} (ht : P.underlying t = some (.struct fs)) (h : Rz P w (n + 1) t cs) (j : Nat) {u o : Nat} (hj : (fs[j]?).map (fun f => (f.type, f.offset)) = some (u, o)) {c : Nat} (hc : P.cellsOf u = c) :
    Rz P w n u ((cs.drop o).take c) := by
  unfold Rz at h; rw [ht] at h
  cases hf : fs[j]? with
  | none => rw [hf] at hj; cases hj
  | some f =>
    rw [hf] at hj
    simp only [Option.map_some, Option.some.injEq, Prod.mk.injEq] at hj
    have := h.2 j f hf
    rw [hj.1, hj.2, hc] at this
    exact this
/-- A field of one cell. -/
theorem rz_fld {fs : Array Field} (ht : P.underlying t = some (.struct fs)) (h : Rz P w (n + 1) t cs) (j : Nat) {u o : Nat} (hj : (fs[j]?).map (fun f => (f.type, f.offset)) = some (u, o)) (hc : P.cellsOf u = 1) {c : Value} (hcs : cs[o]? = some c) : Rz P w n u [c] := by
  have h1 := rz_field ht h j hj hc
  rwa [take_one hcs] at h1
theorem rz_array {k : Nat} {e : TypeId} (ht : P.underlying t = some (.array k e)) (h : Rz P w (n + 1) t cs) :
    cs.length = P.cellsOf t ∧ ∀ i, i < k → Rz P w n e ((cs.drop (i * P.cellsOf e)).take (P.cellsOf e)) := by
  unfold Rz at h; rw [ht] at h; exact h
/-- A slice of bytes that came in, with its reach. -/
theorem by_of_rz {e : TypeId} {v : Value} (ht : P.underlying t = some (.slice e)) (he : P.underlying e = some (.int .u8)) (hc : P.cellsOf e = 1) (hb : P.bytesOf e = 1) (h : Rz P w (n + 2) t [v]) :
    ∃ A len cap l, v = .slice A len cap ∧ len ≤ cap ∧ cap ≤ 140737488351232 ∧ By w w.heap.size A len l := by
  obtain ⟨A, len, cap, l, rfl, h1, -, h3⟩ := by_of_rd ht he hc h.rd
  have := rz_cap ht h
  exact ⟨A, len, cap, l, rfl, h1, by rw [hb] at this; omega, h3⟩
theorem bools_of_rz {e : TypeId} {v : Value} (ht : P.underlying t = some (.slice e)) (he : P.underlying e = some .bool) (hc : P.cellsOf e = 1) (hb : P.bytesOf e = 1) (h : Rz P w (n + 2) t [v]) :
    ∃ (A : Option Addr) (len cap : Nat) (l : List Bool), v = .slice A len cap ∧ len ≤ cap ∧ cap ≤ 140737488351232 ∧ Sl w w.heap.size A len (l.map Value.bool) := by
  obtain ⟨A, len, cap, l, rfl, h1, -, h3⟩ := bools_of_rd ht he hc h.rd
  have := rz_cap ht h
  exact ⟨A, len, cap, l, rfl, h1, by rw [hb] at this; omega, h3⟩
theorem ints_of_rz {e : TypeId} {k : IntKind} {v : Value} (ht : P.underlying t = some (.slice e)) (he : P.underlying e = some (.int k)) (hc : P.cellsOf e = 1) {b : Nat} (hb : P.bytesOf e = b) (h : Rz P w (n + 2) t [v]) :
    ∃ (A : Option Addr) (len cap : Nat) (l : List Int), v = .slice A len cap ∧ len ≤ cap ∧ cap * b ≤ 140737488351232 ∧ Sl w w.heap.size A len (l.map (Value.int k)) ∧ ∀ x ∈ l, (Lit.int k x).wf = true := by
  obtain ⟨A, len, cap, l, rfl, h1, -, h3, h4⟩ := ints_of_rd ht he hc h.rd
  have := rz_cap ht h
  exact ⟨A, len, cap, l, rfl, h1, by rw [hb] at this; omega, h3, h4⟩
theorem slk_of_rz {k : Nat} {e : TypeId} {v : Value} (ht : P.underlying t = some (.slice e)) (hc : P.cellsOf e = k) (h : Rz P w (n + 1) t [v]) :
    ∃ A len cap rows, v = .slice A len cap ∧ len ≤ cap ∧ cap ≤ 9223372036854775807 ∧ cap * P.bytesOf e ≤ 140737488351232 ∧ SlK w A k len rows ∧ ∀ r ∈ rows, Rz P w n e r := by
  rcases rz_slice ht h with h | ⟨a, len, cap, h, hl, hm, hb, hi⟩
  · simp only [List.cons.injEq, and_true] at h
    exact ⟨none, 0, 0, [], h, Nat.le_refl _, by omega, by omega, ⟨rfl, by simp, by simp⟩, by simp⟩
  · simp only [List.cons.injEq, and_true] at h
    rw [hc] at hi
    obtain ⟨rs, hrl, hr⟩ := list_of (Q := fun i (cs' : List Value) => cs'.length = k ∧ (∀ j, j < k → w.cell? (a.add (i * k + j)) = cs'[j]?) ∧ Rz P w n e cs') len hi
    refine ⟨some a, len, cap, rs, h, hl, by simpa [maxLen] using hm, hb, ⟨hrl, fun i hi => (hr i hi).1, fun i j u hi hu => ?_⟩, fun x hx => ?_⟩
    · rw [List.getElem?_eq_getElem hi, Option.bind_some] at hu
      have hj : j < k := by have := (List.getElem?_eq_some_iff.1 hu).1; rwa [(hr i hi).1] at this
      exact ⟨a, rfl, by rw [(hr i hi).2.1 j hj, hu]⟩
    · obtain ⟨j, hj, rfl⟩ := List.getElem_of_mem hx
      exact (hr j hj).2.2
theorem rz_int {k : IntKind} (ht : P.underlying t = some (.int k)) (h : Rz P w (n + 1) t cs) : ∃ m, cs = [.int k m] ∧ (Lit.int k m).wf = true := by
  unfold Rz at h; rw [ht] at h; exact h
theorem rz_bool (ht : P.underlying t = some .bool) (h : Rz P w (n + 1) t cs) : ∃ b, cs = [.bool b] := by
  unfold Rz at h; rw [ht] at h; exact h
theorem rz_i64 {v : Value} (ht : P.underlying t = some (.int .i64)) (h : Rz P w (n + 1) t [v]) : ∃ m, v = .int .i64 m ∧ -9223372036854775808 ≤ m ∧ m ≤ 9223372036854775807 := by
  obtain ⟨m, hm, hw⟩ := rz_int ht h
  simp only [List.cons.injEq, and_true] at hm
  have := wf_bd_i64 hw
  exact ⟨m, hm, this.1, this.2⟩
end
theorem int_argz {P : Program} {w : World} {t : TypeId} {v : Value} (ht : P.underlying t = some (.int .i64)) (h : ArgZ P w t v) : ∃ n, v = .int .i64 n ∧ -9223372036854775808 ≤ n ∧ n ≤ 9223372036854775807 :=
  int_arg ht h.arg
end Go.Proofs.YtbamdibpkkponaaDoor
