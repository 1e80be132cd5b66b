import Derived.Test.YtlobkefacnedeaaDoorJh01
set_option linter.unusedVariables false
set_option linter.unusedSimpArgs false
/- The walk of marllaw15.SegWhole (printed by gen_sgwh.py). -/
namespace Go.Proofs.YtlobkefacnedeaaDoor
open Go.RowKit
set_option maxRecDepth 100000
attribute [local go_sem ↓] Go.wp_at_zero Go.wp_at_succ

theorem And.introW {a0 a1 a2 a3 a4 a5 a6 a7 a8 b : Prop} (h : a0 ∧ a1 ∧ a2 ∧ a3 ∧ a4 ∧ a5 ∧ a6 ∧ a7 ∧ a8) (hb : b) : a0 ∧ a1 ∧ a2 ∧ a3 ∧ a4 ∧ a5 ∧ a6 ∧ a7 ∧ a8 ∧ b := ⟨h.1, h.2.1, h.2.2.1, h.2.2.2.1, h.2.2.2.2.1, h.2.2.2.2.2.1, h.2.2.2.2.2.2.1, h.2.2.2.2.2.2.2.1, h.2.2.2.2.2.2.2.2, hb⟩
/-- A disk whose blocks lie below t. -/
def Low (w0 W : World) (t d : Nat) (D : Dsk) : Prop := ∃ s v, DskA W w0.heap.size d s v D ∧ d < t ∧ s < t ∧ ∀ g, v.ownBlock = some g → g < t
theorem Low.of {w0 w : World} {d : Nat} {D : Dsk} (h : LD w0 w d D) : Low w0 w w.heap.size d D := by
  obtain ⟨s, v, hD⟩ := h.ex
  exact ⟨s, v, hD, hD.hd.lt, hD.hs.lt, fun g hg => (World.ownsRow.lt hD.hq g hg).2⟩
theorem Low.below {w0 W W' : World} {t d : Nat} {D : Dsk} (h : Low w0 W t d D) (hb : Below W.heap.size W W') : Low w0 W' t d D := by
  obtain ⟨s, v, hD, h1⟩ := h
  exact ⟨s, v, dsk_kp hD (Kp.of_below (gs := []) hb) (by simp) (by simp) (by simp), h1⟩
theorem Low.out {w0 W : World} {t d : Nat} {D : Dsk} (h : Low w0 W t d D) {k : Nat} (h1 : t ≤ k) (h2 : k < W.heap.size) : Out w0 W d D k := by
  obtain ⟨s, v, hD, k1, k2, k3⟩ := h
  exact ⟨h2, s, v, hD, by omega, by omega, fun e => by have := k3 k e; omega⟩
theorem Low.ld {w0 W : World} {t d : Nat} {D : Dsk} (h : Low w0 W t d D) (hb : Below w0.heap.size w0 W) : LD w0 W d D := by
  obtain ⟨s, v, hD, -⟩ := h
  exact ⟨⟨s, v, hD⟩, hb⟩
theorem low_arm {w0 W : World} {t d : Nat} {D : Dsk} (h : Low w0 W t d D) (n : Int) (h0 : 0 ≤ n) (h1 : n ≤ 9223372036854775807) (hl : D.left ≠ 0) : Calls Tryd.prog 26 #[.pointer (some ⟨d, 0, none⟩), .int .i64 n] W fun e w' => e = .returned (.int .i64 0) ∧ Low w0 w' t d { D with left := n } ∧ Kp [d] W w' ∧ d < t ∧ w0.heap.size ≤ d := by
  obtain ⟨s, v, hD, k⟩ := h
  refine (arm_ok W _ d s v D n hD h0 h1 hl).mono ?_
  rintro e w' ⟨rfl, hD', hk⟩
  exact ⟨rfl, ⟨s, v, hD', k⟩, hk, k.1, hD.db⟩
/-- One cell of nine. -/
theorem set0x {w : World} {g : Nat} {t : TypeId} {x0 x1 x2 x3 x4 x5 x6 x7 x8 : Value} (h : Blk w g t #[x0, x1, x2, x3, x4, x5, x6, x7, x8]) (y : Value) :
    ∃ W, w.setCell ⟨g, 0, none⟩ y = W ∧ Blk W g t #[y, x1, x2, x3, x4, x5, x6, x7, x8] ∧ Kp [g] w W := by
  have hm : (⟨g, 0, none⟩ : Addr).block ∈ [g] ∨ w.heap.size ≤ (⟨g, 0, none⟩ : Addr).block := .inl (List.mem_singleton.2 rfl)
  have := h.set 0 y
  exact ⟨_, rfl, by simpa using this, (Kp.refl [g] w).set hm y⟩
theorem ck_codes (v : PV) : v.ck = 0 ∨ v.ck = 22 ∨ v.ck = 27 := by
  unfold PV.ck checkP
  split
  · split
    · exact .inr (.inr rfl)
    · exact .inl rfl
  · exact .inr (.inl rfl)
/-- What a write's answer says. -/
theorem wrS_codes {D : Dsk} (hQ : D.queue = []) {a : Nat} {v : PV} {bs : List (List UInt8)} (h64 : ∀ b ∈ bs, b.length = 64) (z0 : D.read a = zero64) (z1 : D.read (a + 1) = zero64) :
    ((wrS D (a : Int) v bs).1 = 22 ∨ (wrS D (a : Int) v bs).1 = 27) ∨ (((wrS D (a : Int) v bs).1 = 0 ∨ (wrS D (a : Int) v bs).1 = 102) ∧ ∃ x : Nat, v.x = (x : Int) ∧ v.ck = 0 ∧ bs.length = v.n - 2 ∧ a + v.n ≤ D.sure.length ∧ x + 2 ≤ D.sure.length ∧
      Cut D (wrS D (a : Int) v bs).2 a x v.n (wrS D (a : Int) v bs).1 ((v.enc (crc bs.flatten)).take 64) ((v.enc (crc bs.flatten)).drop 64) bs) := by
  by_cases h1 : v.ck = 0
  · by_cases h2 : fitS D (a : Int) v bs.length
    · obtain ⟨x0, x1⟩ := ck_x h1
      have hv := PV.n_bd h1
      have hf := h2
      unfold fitS at hf
      obtain ⟨x, hx⟩ : ∃ x : Nat, v.x = (x : Int) := ⟨v.x.toNat, by omega⟩
      rw [hx] at hf
      obtain ⟨k1, k2⟩ := wrS_cut hQ hx h1 h2 (by rw [List.any_eq_true]; rintro ⟨b, hb, hn⟩; simp [h64 b hb] at hn) z0 z1
      exact .inr ⟨k1, x, hx, h1, by omega, by omega, by omega, k2⟩
    · left; left
      unfold wrS
      rw [if_neg (by rw [h1]; decide), if_pos h2]
  · left
    have e : (wrS D (a : Int) v bs).1 = v.ck := by unfold wrS; rw [if_pos h1]
    rw [e]
    exact (ck_codes v).resolve_left h1
set_option maxHeartbeats 16000000 in
theorem whole15 (w : World) (a b k0 k1 k2 k3 : Int) (v u : PV) (A1 A2 A3 B1 B2 B3 : Option Addr) (n1 c1 n2 c2 m c3 p1 d1 p2 d2 q d3 : Nat) (data data' : List UInt8) (sp : SpanAt w) (hv : PcK w v A1 n1 A2 n2 A3 m c3 data) (hu : PcK w u B1 p1 B2 p2 B3 q d3 data') :
    Calls Tryd.prog 6 #[.agg (rfC a v A1 n1 c1 A2 n2 c2 A3 m c3), .agg (rfC b u B1 p1 d1 B2 p2 d2 B3 q d3), .agg #[.int .i64 k0, .int .i64 k1, .int .i64 k2, .int .i64 k3]] w fun r w' => r = .returned (.bool true) ∧ Below w.heap.size w w' := by
  have SP := hide sp
  have HV := hide hv
  have HU := hide hu
  obtain ⟨z, hz, hz30⟩ := modU k3 30 (by decide) (by decide)
  obtain ⟨y, hy, hy130⟩ := modU k0 130 (by decide) (by decide)
  have HZ := hide (show z < 30 ∧ y < 130 by omega)
  clear sp hv hu hz30 hy130
  unfold rfC
  go_enter Tryd.func6, Tryd.ntmps6
  go_upto_region 1 with fail
  obtain ⟨w1, hw⟩ : ∃ W, W = ((w.alloc (.cells #[.int .i64 a, .int .i64 v.e, .int .i64 v.c, .int .i64 v.i, .int .i64 v.p, .int .i64 v.x, .slice A1 n1 c1, .slice A2 n2 c2, .slice A3 m c3] 28)).alloc (.cells #[.int .i64 b, .int .i64 u.e, .int .i64 u.c, .int .i64 u.i, .int .i64 u.p, .int .i64 u.x, .slice B1 p1 d1, .slice B2 p2 d2, .slice B3 q d3] 28)).alloc (.cells #[.int .i64 k0, .int .i64 k1, .int .i64 k2, .int .i64 k3] 66) := ⟨_, rfl⟩
  have X3 : Hid (Blk w1 w.heap.size 28 #[.int .i64 a, .int .i64 v.e, .int .i64 v.c, .int .i64 v.i, .int .i64 v.p, .int .i64 v.x, .slice A1 n1 c1, .slice A2 n2 c2, .slice A3 m c3]) := hide (by rw [hw]; exact ((Blk.new _ _ _).alloc _).alloc _)
  have X4 : Hid (Blk w1 (w.heap.size + 1) 28 #[.int .i64 b, .int .i64 u.e, .int .i64 u.c, .int .i64 u.i, .int .i64 u.p, .int .i64 u.x, .slice B1 p1 d1, .slice B2 p2 d2, .slice B3 q d3]) := hide (by rw [hw]; have := Blk.new (w.alloc (.cells #[.int .i64 a, .int .i64 v.e, .int .i64 v.c, .int .i64 v.i, .int .i64 v.p, .int .i64 v.x, .slice A1 n1 c1, .slice A2 n2 c2, .slice A3 m c3] 28)) 28 #[.int .i64 b, .int .i64 u.e, .int .i64 u.c, .int .i64 u.i, .int .i64 u.p, .int .i64 u.x, .slice B1 p1 d1, .slice B2 p2 d2, .slice B3 q d3]; have := this.alloc (.cells #[.int .i64 k0, .int .i64 k1, .int .i64 k2, .int .i64 k3] 66); simpa using this)
  have X5 : Hid (Blk w1 (w.heap.size + 1 + 1) 66 #[.int .i64 k0, .int .i64 k1, .int .i64 k2, .int .i64 k3]) := hide (by rw [hw]; have := Blk.new ((w.alloc (.cells #[.int .i64 a, .int .i64 v.e, .int .i64 v.c, .int .i64 v.i, .int .i64 v.p, .int .i64 v.x, .slice A1 n1 c1, .slice A2 n2 c2, .slice A3 m c3] 28)).alloc (.cells #[.int .i64 b, .int .i64 u.e, .int .i64 u.c, .int .i64 u.i, .int .i64 u.p, .int .i64 u.x, .slice B1 p1 d1, .slice B2 p2 d2, .slice B3 q d3] 28)) 66 #[.int .i64 k0, .int .i64 k1, .int .i64 k2, .int .i64 k3]; simpa using this)
  have BW : Hid (Below w.heap.size w w1) := hide (by rw [hw]; exact (((Below.refl _ _).alloc (Nat.le_refl _) _).alloc (by simp) _).alloc (by simp; omega) _)
  rw [← hw]
  obtain ⟨g3, hg3⟩ : ∃ g, g = w.heap.size := ⟨_, rfl⟩
  rw [← hg3] at X3 X4 X5 ⊢
  obtain ⟨g4, hg4⟩ : ∃ g, g = g3 + 1 := ⟨_, rfl⟩
  rw [← hg4] at X4 X5 ⊢
  obtain ⟨g5, hg5⟩ : ∃ g, g = g4 + 1 := ⟨_, rfl⟩
  rw [← hg5] at X5 ⊢
  have G := hide (show w.heap.size ≤ g3 ∧ w.heap.size ≤ g4 ∧ g3 ≠ g4 ∧ g3 ≠ g5 ∧ g4 ≠ g5 by omega)
  clear hw hg3 hg4 hg5
  go_wp2_with fail
  refine (awake15 w1 (SP.out.bel BW.out)).mono ?_
  rintro r w2 ⟨rfl, hb⟩
  replace X3 := hide (X3.out.below hb)
  replace X4 := hide (X4.out.below hb)
  replace X5 := hide (X5.out.below hb)
  replace BW := hide (BW.out.trans (hb.mono BW.out.size))
  clear hb
  have FC := hide (few15 w2 a v A1 A2 A3 n1 c1 n2 c2 m c3 _ _ (HV.out.f.bx BW.out) HV.out.h1 HV.out.h2 HV.out.h3 (fun f hf => (HV.out.hl f hf).2))
  unfold rfC at FC
  obtain ⟨x0, x1, x2, x3, x4, x5, x6, x7, x8⟩ := op9S X3.out
  go_wp2_with fail
  clear x0 x1 x2 x3 x4 x5 x6 x7 x8
  refine FC.out.mono ?_
  rintro r w3 ⟨⟨ok, rfl, hfw⟩, hb⟩
  replace X3 := hide (X3.out.below hb)
  replace X4 := hide (X4.out.below hb)
  replace X5 := hide (X5.out.below hb)
  replace BW := hide (BW.out.trans (hb.mono BW.out.size))
  clear hb FC
  cases ok with
  | false =>
    clear hfw
    go_wp2_with fail
    refine (awake15 w3 (SP.out.bel BW.out)).mono ?_
    rintro r w4 ⟨rfl, hb⟩
    have B4 := hide (BW.out.trans (hb.mono BW.out.size))
    clear hb
    go_wp2_with fail
    go_ret
    exact ⟨rfl, B4.out⟩
  | true =>
    clear hfw
    have FC := hide (few15 w3 b u B1 B2 B3 p1 d1 p2 d2 q d3 _ _ (HU.out.f.bx BW.out) HU.out.h1 HU.out.h2 HU.out.h3 (fun f hf => (HU.out.hl f hf).2))
    unfold rfC at FC
    obtain ⟨x0, x1, x2, x3, x4, x5, x6, x7, x8⟩ := op9S X4.out
    go_wp2_with fail
    clear x0 x1 x2 x3 x4 x5 x6 x7 x8
    refine FC.out.mono ?_
    rintro r w4 ⟨⟨ok, rfl, hfw⟩, hb⟩
    replace X3 := hide (X3.out.below hb)
    replace X4 := hide (X4.out.below hb)
    replace X5 := hide (X5.out.below hb)
    replace BW := hide (BW.out.trans (hb.mono BW.out.size))
    clear hb FC
    cases ok with
    | false =>
      clear hfw
      go_wp2_with fail
      refine (awake15 w4 (SP.out.bel BW.out)).mono ?_
      rintro r w5 ⟨rfl, hb⟩
      have B4 := hide (BW.out.trans (hb.mono BW.out.size))
      clear hb
      go_wp2_with fail
      go_ret
      exact ⟨rfl, B4.out⟩
    | true =>
      obtain ⟨h40, h120, h200, hls⟩ := hfw rfl
      have hls2 : lsN u.fs ≤ 120 := by omega
      clear hfw
      obtain ⟨at_, hat⟩ : ∃ at_ : Nat, at_ = 130 + z := ⟨_, rfl⟩
      have HAT := hide (show 130 ≤ at_ ∧ at_ < 160 by have := HZ.out; omega)
      have hwz : IntKind.i64.wrap (130 + (z : Int)) = (at_ : Int) := by rw [IntKind.wrap_i64]; have := HZ.out; omega
      clear hat
      have c0 : w4.cell? ⟨g3, 0, none⟩ = some (.int .i64 a) := X3.out.cell 0
      have f0 : w4.frozen? ⟨g3, 0, none⟩ = false := X3.out.frozen 0
      go_upto_region 4 with fail
      obtain ⟨w5, eW, s1, s2⟩ := set0x X3.out (.int .i64 3)
      rw [eW]
      have H4 := G.out
      replace X4 := hide (X4.out.kp s2 (by simp only [List.mem_singleton]; omega))
      replace X5 := hide (X5.out.kp s2 (by simp only [List.mem_singleton]; omega))
      replace X3 := hide s1
      replace BW := hide (Below.kp2 BW.out s2 BW.out.size (by simp only [List.mem_singleton]; omega))
      clear eW s1 s2 c0 f0
      have c0 : w5.cell? ⟨g4, 0, none⟩ = some (.int .i64 b) := X4.out.cell 0
      have f0 : w5.frozen? ⟨g4, 0, none⟩ = false := X4.out.frozen 0
      have e3 : w5.cell? ⟨g5, 3, none⟩ = some (.int .i64 k3) := X5.out.cell 3
      go_upto_region 5 with fail
      obtain ⟨w6, eW, s1, s2⟩ := set0x X4.out (.int .i64 (at_ : Int))
      rw [eW]
      replace X3 := hide (X3.out.kp s2 (by simp only [List.mem_singleton]; omega))
      replace X5 := hide (X5.out.kp s2 (by simp only [List.mem_singleton]; omega))
      replace X4 := hide s1
      have X40 := hide X4.out
      have X50 := hide X5.out
      replace BW := hide (Below.kp2 BW.out s2 BW.out.size (by simp only [List.mem_singleton]; omega))
      clear eW s1 s2 c0 f0 e3 H4 hz hwz
      replace HV := hide (HV.out.below BW.out)
      replace HU := hide (HU.out.below BW.out)
      have HP := hide (pcs_one (a := 3) (c1 := c1) (c2 := c2) (by unfold I64; omega) HV.out.f HV.out.i HV.out.d HV.out.hc HV.out.h1 HV.out.h2 HV.out.h3 HV.out.hl)
      unfold rfC at HP
      obtain ⟨w7, hw⟩ : ∃ W, W = w6.alloc (.cells #[.int .i64 3, .int .i64 v.e, .int .i64 v.c, .int .i64 v.i, .int .i64 v.p, .int .i64 v.x, .slice A1 n1 c1, .slice A2 n2 c2, .slice A3 m c3] 28) := ⟨_, rfl⟩
      have ba := (show Below w6.heap.size w6 w7 by rw [hw]; exact (Below.refl _ _).alloc (Nat.le_refl _) _)
      have HW := hide hw
      rw [← hw] at HP
      clear hw
      have B7 := hide (BW.out.trans (ba.mono BW.out.size))
      have WR := hide (written15 w7 300 (by decide) (by decide) _ 1 1 _ (SP.out.bel B7.out) HP.out (by decide))
      rw [show ((300 : Nat) : Int) = 300 from rfl] at WR
      obtain ⟨x0, x1, x2, x3, x4, x5, x6, x7, x8⟩ := op9S X3.out
      go_wp2_with fail
      clear x0 x1 x2 x3 x4 x5 x6 x7 x8 X3
      rw [← HW.out]
      refine WR.out.mono ?_
      rintro r w8 ⟨D, d, As, cs, Aq, cq, rfl, hl, -, hL, hQ, hN, hS⟩
      have L := hide hl
      have HX := hide (show D.left < 0 ∧ D.queue = [] ∧ D.sure.length = 300 ∧ D.steps ≤ 5000 from ⟨hL, hQ, hN, hS⟩)
      replace X4 := hide ((X4.out.below ba).below hl.bel)
      replace X5 := hide ((X5.out.below ba).below hl.bel)
      replace HU := hide (HU.out.below ba)
      have X47 : Hid (Blk w7 g4 28 #[.int .i64 (at_ : Int), .int .i64 u.e, .int .i64 u.c, .int .i64 u.i, .int .i64 u.p, .int .i64 u.x, .slice B1 p1 d1, .slice B2 p2 d2, .slice B3 q d3]) := hide (X40.out.below ba)
      have X57 : Hid (Blk w7 g5 66 #[.int .i64 k0, .int .i64 k1, .int .i64 k2, .int .i64 k3]) := hide (X50.out.below ba)
      clear X40 X50
      clear hl hL hQ hN hS WR HP HW BW HV ba
      unfold refV
      go_upto_region 6 with fail
      obtain ⟨w9, hw⟩ : ∃ W, W = w8.alloc (.cells #[.slice As D.sure.length cs, .slice Aq D.queue.length cq, .int .i64 (D.steps : Int), .int .i64 D.left] 51) := ⟨_, rfl⟩
      have X8 : Hid (Blk w9 w8.heap.size 51 #[.slice As D.sure.length cs, .slice Aq D.queue.length cq, .int .i64 (D.steps : Int), .int .i64 D.left]) := hide (by rw [hw]; exact Blk.new _ _ _)
      have ba := (show Below w8.heap.size w8 w9 by rw [hw]; exact (Below.refl _ _).alloc (Nat.le_refl _) _)
      rw [← hw]
      obtain ⟨g8, hg⟩ : ∃ g, g = w8.heap.size := ⟨_, rfl⟩
      rw [← hg] at X8 ⊢
      replace L := hide (L.out.below ba)
      replace X4 := hide (X4.out.below ba)
      replace X5 := hide (X5.out.below ba)
      clear hw hg ba
      have hC := clrS_ok HX.out.1 (by rw [HX.out.2.1]; simp) (a := at_) (D := D) (by rw [HX.out.2.2.1]; have := HAT.out; omega)
      have CL := hide (clear_any w7 w9 d D L.out (at_ : Int) (by have := HX.out.2.2.2; omega) (by rw [HX.out.2.1]; exact Nat.zero_le _))
      have hN1 : (clrS D (at_ : Int)).2.sure.length = 300 := by rw [clrS_len]; exact HX.out.2.2.1
      have hS1 := (clrS_bd D (at_ : Int)).1
      obtain ⟨R, hR⟩ : ∃ R, R = clrS D (at_ : Int) := ⟨_, rfl⟩
      rw [← hR] at hC hN1 hS1 CL
      clear hR
      obtain ⟨qq, E⟩ := R
      obtain ⟨rfl, hC1, hC2, hC3⟩ := hC
      have HE := hide (show E.left < 0 ∧ E.queue = [] ∧ E.sure.length = 300 ∧ E.steps ≤ 5003 ∧ E.read at_ = zero64 ∧ E.read (at_ + 1) = zero64 from ⟨hC1, hC2, hN1, by have := HX.out.2.2.2; dsimp only at hS1; omega, by have := hC3 at_; rwa [if_pos (.inl rfl)] at this, by have := hC3 (at_ + 1); rwa [if_pos (.inr rfl)] at this⟩)
      dsimp only at CL
      clear hC1 hC2 hC3 hN1 hS1
      have hN300 : ((D.sure.length : Nat) : Int) = 300 := by rw [HX.out.2.2.1]; rfl
      have y0 : w9.cell? ⟨g8, 0, none⟩ = some (.slice As D.sure.length cs) := X8.out.cell 0
      have z0 : w9.cell? ⟨g4, 0, none⟩ = some (.int .i64 (at_ : Int)) := X4.out.cell 0
      go_wp2_with fail
      clear y0 z0 hN300 X8
      refine CL.out.mono ?_
      rintro r w10 ⟨rfl, hst⟩
      have K := hide (stp_kt L.out hst)
      replace L := hide hst.ld
      replace X4 := hide (X4.out.kt K.out (by decide))
      replace X5 := hide (X5.out.kt K.out (by decide))
      clear hst CL K HX X4 X5
      have CR := hide (ld_crash L.out (by rw [HE.out.2.2.1]; decide) w10.heap.size none 0 0 [] ⟨rfl, fun i u hu => by simp at hu⟩ (Nat.le_refl _) (by decide) (-1) 0)
      go_wp2_with fail
      refine CR.out.mono ?_
      rintro r w11 ⟨d0, cap0, pad0, rfl, hl⟩
      obtain ⟨C0, hCe⟩ : ∃ C, C = E.crashed (crashF [] (-1) 0) cap0 pad0 := ⟨_, rfl⟩
      have LO := hide ((Low.of L.out).below hl.bel)
      have OD : Hid (Old w10.heap.size w11 d0 C0) := hide (by rw [hCe]; exact hl.ex)
      have B11 := hide (L.out.bel.trans (hl.bel.mono L.out.bel.size))
      obtain ⟨D2, hD2⟩ : ∃ X : Dsk, X = { E with left := (y : Int) } := ⟨_, rfl⟩
      have HC0 := hide (show C0.sure.length = 300 ∧ ∀ j, C0.read j = D2.read j by
        obtain ⟨z1, z2, z3⟩ := crashed_none15 HE.out.2.1 (crashF [] (-1) 0) cap0 pad0
        rw [hCe, hD2]
        exact ⟨by rw [z1]; exact HE.out.2.2.1, fun j => z3 j⟩)
      have S10 := hide L.out.bel.size
      have E0 := hide (show (E.left ≠ 0) by have := HE.out.1; omega)
      have H2 := hide (show D2.queue = [] ∧ D2.sure.length = 300 ∧ D2.steps ≤ 5003 ∧ D2.read at_ = zero64 ∧ D2.read (at_ + 1) = zero64 by rw [hD2]; exact HE.out.2)
      have AR := hide (low_arm LO.out (y : Int) (by omega) (by have := HZ.out; omega) E0.out)
      rw [← hD2] at AR
      clear hl hCe hD2 CR L HE E0
      have e0 : w11.cell? ⟨g5, 0, none⟩ = some (.int .i64 k0) := (X57.out.below B11.out).cell 0
      go_wp2_with fail
      refine AR.out.mono ?_
      rintro r w12 ⟨rfl, hlo, hk, hdt, hd7⟩
      replace OD := hide (OD.out.kp hk (fun k h1 h2 => by simp only [List.mem_singleton]; omega))
      have B12 := hide (Below.kp2 B11.out hk B11.out.size (by simp only [List.mem_singleton]; omega))
      replace LO := hide hlo
      clear hlo hk hdt hd7 AR B11 e0 hy
      go_upto_region 11 with fail
      obtain ⟨nb, hnb⟩ : ∃ n, n = min u.n 200 - 2 := ⟨_, rfl⟩
      have HLN := hide (And.intro HU.out.f.len (IntsAt.len HU.out.i))
      have HNB := hide (show nb ≤ 198 ∧ nb = min u.n 200 - 2 from ⟨by omega, hnb⟩)
      have BK := hide (show ∀ W, Below w7.heap.size w7 W → Calls Tryd.prog 12 #[.agg (partC u.e u.c u.i u.p u.x B1 p1 d1 B2 p2 d2), .slice B3 q d3] W fun r w' => ∃ A' c' gs, r = .returned (.slice A' nb c') ∧ RowT 5 W.heap.size w' A' c' gs (blkS nb data') ∧ Below W.heap.size W w' from fun W hb => by
        rw [hnb]
        exact blocks_any u B1 B2 p1 d1 p2 d2 _ _ B3 q d3 w7.heap.size data' W (HU.out.f.bx hb) HLN.out.2 (by omega) (by omega) (by omega) (HU.out.d.below hb) hb.size (by omega) HU.out.hc)
      unfold partC at BK
      clear hnb
      have hcc := op9S (X47.out.below B12.out)
      refine wp_region_noPanic ?_
      refine wp_region_held_drew (S := (fun w' => w'.cell? ⟨g4, 0, none⟩ = some (.int .i64 (at_ : Int)) ∧ w'.cell? ⟨g4, 1, none⟩ = some (.int .i64 u.e) ∧ w'.cell? ⟨g4, 2, none⟩ = some (.int .i64 u.c) ∧ w'.cell? ⟨g4, 3, none⟩ = some (.int .i64 u.i) ∧ w'.cell? ⟨g4, 4, none⟩ = some (.int .i64 u.p) ∧ w'.cell? ⟨g4, 5, none⟩ = some (.int .i64 u.x) ∧ w'.cell? ⟨g4, 6, none⟩ = some (.slice B1 p1 d1) ∧ w'.cell? ⟨g4, 7, none⟩ = some (.slice B2 p2 d2) ∧ w'.cell? ⟨g4, 8, none⟩ = some (.slice B3 q d3))) (by kernel_rfl) ?_ (fun hHeld => ?_)
      · ((try dsimp only) <;> (first | trivial | assumption | go_keep))
      clear hcc
      replace LO := hide (LO.out.below (Below.refl _ _).drew)
      replace OD := hide (OD.out.below (Below.refl _ _).drew)
      have BD := hide (B12.out.trans ((Below.refl w12.heap.size w12).drew.mono B12.out.size))
      generalize w12.drew = wd at *
      refine tk 0 ?_
      refine tk 1 ?_
      refine tk 2 ?_
      refine tk 3 ?_
      refine tk 4 ?_
      refine tk 5 ?_
      refine tk 6 ?_
      refine tk 7 ?_
      refine tk 8 ?_
      have BK2 := BK.out wd BD.out
      refine wpAnyH_ready (rs := [9]) (by kernel_rfl) (by simp) ?_
      refine AllReadyH.cons (by simp only [List.getElem?_toArray, List.getElem?_cons_succ, List.getElem?_cons_zero]; rfl) (fun K hK => ?_) ?_
      rotate_left 1
      · exact AllReadyH.nil
      go_simp
      refine BK2.mono ?_; rintro r we ⟨A6, c6, gs6, rfl, hR, hb⟩; have RT := hide (hR.bq BD.out.size); replace LO := hide (LO.out.below hb); replace OD := hide (OD.out.below hb); replace BD := hide (BD.out.trans (hb.mono BD.out.size)); have hcc := op9S (X47.out.below BD.out); clear hR hb
      refine hK.out _ _ ?_ (fun hHeld2 => ?_)
      · ((try dsimp only) <;> (first | trivial | assumption | go_keep))
      clear hHeld
      have hHeld := hHeld2
      clear hHeld2 hK K
      try simp only [Act.put, List.setIfInBounds_toArray, List.set_cons_zero, List.set_cons_succ]
      clear hHeld BK2
      have hHeld := hcc
      clear hcc
      have WC := write_any w7 we d D2 (LO.out.ld BD.out) (at_ : Int) (by unfold I64; have := HAT.out; omega) u B1 B2 p1 d1 p2 d2 _ _ (SP.out.bel B7.out) (HU.out.f.bx BD.out) (RwAt.bx HU.out.i BD.out) (by omega) (by omega) (by omega) (fun f hf => (HU.out.hl f hf).1) A6 nb c6 (blkS nb data') (by have := RT.out.bs; rw [blkS_len] at this; exact this) (by have := HNB.out.1; omega) (by have := H2.out.2.2.1; omega) (by rw [H2.out.1]; exact Nat.zero_le _)
      have HWC := hide (And.intro (wrS_codes H2.out.1 (a := at_) (v := u) (bs := blkS nb data') (blkS_64 _ _) H2.out.2.2.2.1 H2.out.2.2.2.2) (wrS_len D2 (at_ : Int) u (blkS nb data')))
      obtain ⟨R, hR⟩ : ∃ R, R = wrS D2 (at_ : Int) u (blkS nb data') := ⟨_, rfl⟩
      rw [← hR] at WC HWC
      clear hR
      obtain ⟨qq, E3⟩ := R
      dsimp only at WC HWC
      unfold partC at WC
      refine wpAnyH_ready (rs := [10]) (by kernel_rfl) (by simp) ?_
      refine AllReadyH.cons (by simp only [List.getElem?_toArray, List.getElem?_cons_succ, List.getElem?_cons_zero]; rfl) (fun K hK => ?_) ?_
      rotate_left 1
      · exact AllReadyH.nil
      go_simp
      refine WC.mono ?_; rintro r wf ⟨rfl, hst⟩; obtain ⟨gs, hk, ho⟩ := hst.kp; replace OD := hide (OD.out.kp hk (fun k h1 h2 => (ho k (LO.out.out h1 h2)).1)); have L := hide hst.ld; replace BD := hide hst.ld.bel; have hcc := op9S (X47.out.below BD.out); clear hst hk ho
      refine hK.out _ _ ?_ (fun hHeld2 => ?_)
      · ((try dsimp only) <;> (first | trivial | assumption | go_keep))
      clear hHeld
      have hHeld := hHeld2
      clear hHeld2 hK K
      try simp only [Act.put, List.setIfInBounds_toArray, List.set_cons_zero, List.set_cons_succ]
      clear hHeld WC LO RT
      have hHeld := hcc
      clear hcc
      refine tk 11 ?_
      refine wpAnyH_done (by kernel_rfl) ?_ _
      refine NoPanic.normal ?_
      clear hHeld
      have BF := hide (B7.out.trans (BD.out.mono B7.out.size))
      go_upto_region 12 with fail
      go_cut [96] (fun y wx => wx = wf ∧ ∃ yb : Bool, y = .bool yb ∧ (qq = 0 ∨ qq = 102 → yb = false) ∧ (qq = 22 ∨ qq = 27 → yb = true))
      case first =>
        by_cases h1 : qq = 0
        · subst h1
          go_wp2_with fail
          go_meet
          exact ⟨rfl, false, rfl, fun _ => rfl, fun h => by omega⟩
        · have h2 : (qq != 0) = true := bne_iff_ne.2 h1
          by_cases h3 : qq = 102
          · subst h3
            go_wp2_with fail
            go_meet
            exact ⟨rfl, false, rfl, fun _ => rfl, fun h => by omega⟩
          · have h4 : (qq != 102) = true := bne_iff_ne.2 h3
            go_wp2_with fail
            go_meet
            exact ⟨rfl, true, rfl, fun h => by omega, fun _ => rfl⟩
      case rest =>
      obtain ⟨hwc, yb, rfl, hy0, hy1⟩ := hcut
      subst hwc
      obtain ⟨wf, rfl⟩ : ∃ W, W = wc := ⟨_, rfl⟩
      rcases HWC.out.1 with hq | ⟨hq, x, hx, hck, hbl, hal, hxl, hcut⟩
      · obtain rfl := hy1 hq
        clear HWC hy0 hy1
        rcases hq with rfl | rfl
        · go_wp2_with fail
          go_ret
          exact ⟨rfl, BF.out⟩
        · go_wp2_with fail
          go_ret
          exact ⟨rfl, BF.out⟩
      obtain rfl := hy0 hq
      clear hy0 hy1
      have HCUT := hide (show qq = 0 ∨ qq = 102 from hq)
      have HK := hide (show u.x = (x : Int) ∧ u.ck = 0 ∧ nb = u.n - 2 ∧ at_ + u.n ≤ 300 ∧ x + 2 ≤ 300 by
        rw [blkS_len] at hbl
        rw [H2.out.2.1] at hal hxl
        exact ⟨hx, hck, hbl, hal, hxl⟩)
      have CUT := hide hcut
      have HE3 := hide (show E3.sure.length = 300 by have := HWC.out.2; rw [H2.out.2.1] at this; exact this)
      clear hx hck hbl hal hxl hcut HWC
      clear hq HCUT
      go_wp2_with fail
      go_loopw [12, 13] (fun x y wr => ∃ (i : Nat) (A : Option Addr) (c : Nat) (ks : List Bool), i ≤ 130 ∧ ks.length = i ∧ x = .slice A i c ∧ y = .int .i64 (i : Int) ∧ wr.ownsRow wf.heap.size 4 1 (.slice A i c) i (ks.map Value.bool) ∧ Below wf.heap.size wf wr) (fun _ y _ => 130 - (intOf y).toNat)
      case atStart => exact ⟨0, none, 0, [], Nat.zero_le _, rfl, rfl, rfl, World.ownsRow_nil _ _ _ _, Below.refl _ _⟩
      case round =>
        obtain ⟨i, A, c, ks, hi, hkl, rfl, rfl, ho, hbr⟩ := hrel
        have O := hide ho
        have BR := hide hbr
        have KL := hide hkl
        clear ho hbr hkl
        by_cases hlt : i < 130
        · have h3 : (i : Int) < 130 := by omega
          have e1 : wr.cell? ⟨g5, 1, none⟩ = some (.int .i64 k1) := (X57.out.below (BD.out.trans (BR.out.mono BD.out.size))).cell 1
          have h60 : (i : Int).tmod 60 = ((i % 60 : Nat) : Int) := by rw [Int.tmod_eq_emod_of_nonneg (by omega)]; omega
          have hm60 : i % 60 < 60 := Nat.mod_lt _ (by decide)
          obtain ⟨s, hs⟩ : ∃ s, s = i % 60 := ⟨_, rfl⟩
          rw [← hs] at h60 hm60
          clear hs
          obtain ⟨kb, hkb⟩ : ∃ kb, kb = (bits BinOp.and IntKind.i64 (k1 / 2 ^ s) 1 == 1) := ⟨_, rfl⟩
          go_wp2_with (
            at_builtin
            rw [← hkb]
            refine wpList_app _ rfl (.tmp 107) (.tmp 115) _ rfl etyBool wf.heap.size (.slice A i c) i _ rfl (own_bel O.out ((Below.refl _ _).alloc (Nat.le_refl _) (.cells #[.bool kb] 4))) (wr.heap.size + 1) (some ⟨wr.heap.size, 0, none⟩) 1 1 [.bool kb] rfl (sl_newS wr [.bool kb] 4) (by intro u hu; rw [List.mem_singleton] at hu; rw [hu]; rfl) (by omega) (by have := BR.out.size; simp; omega) ?_
            intro A3 c3 w3 ho hg ha
            have ba := (Below.refl wr.heap.size wr).alloc (Nat.le_refl _) (.cells #[.bool kb] 4)
            have OO := own_bel O.out ba
            have O3 := hide ho
            replace BR := hide ((BR.out.trans (ba.mono BR.out.size)).grown hg (by have := BR.out.size; have := ba.size; omega) (fun g hg => (OO.lt g hg).1))
            clear ho hg ha ba OO e1)
          go_roundw
          case rel => exact ⟨i + 1, A3, c3, ks ++ [kb], by omega, by rw [List.length_append, KL.out]; rfl, rfl, by go_num, by rw [List.map_append]; exact O3.out, BR.out⟩
          case measure => simp [intOf]; omega
        · have h3 : ¬ (i : Int) < 130 := by omega
          have B13 := hide (BD.out.trans (BR.out.mono BD.out.size))
          have e1 : wr.cell? ⟨g5, 1, none⟩ = some (.int .i64 k1) := (X57.out.below B13.out).cell 1
          have e2 : wr.cell? ⟨g5, 2, none⟩ = some (.int .i64 k2) := (X57.out.below B13.out).cell 2
          have LW := hide (L.out.below BR.out)
          have OK3 := hide LW.out.ok
          have CR := hide (ld_crash LW.out (by rw [HE3.out]; decide) _ A i c ks (Sl.of_own O.out) (Nat.le_refl _) (by omega) k2 k1)
          go_wp2_with fail
          clear e1 e2
          refine CR.out.mono ?_
          rintro r w13 ⟨dd, cap1, pad1, rfl, hl⟩
          obtain ⟨C, hCe⟩ : ∃ C, C = E3.crashed (crashF ks k2 k1) cap1 pad1 := ⟨_, rfl⟩
          have hCl : C.sure.length = 300 := by
            rw [hCe]
            have := (crashN_64 (f := crashF ks k2 k1) ⟨rfl, OK3.out.b⟩ OK3.out.q E3.queue.length (Nat.le_refl _)).1
            exact this.trans HE3.out
          rw [← hCe] at hl
          have L13 := hide hl
          replace OD := hide ((OD.out.below BR.out).below hl.bel)
          have R0 := hide (show ∀ j, j < 300 → (D2.read j).length = 64 from fun j hj => by
            obtain ⟨s, v, hD⟩ := OD.out
            rw [← HC0.out.2 j]
            exact read_lenG hD.ok (by rw [HC0.out.1]; exact hj))
          have HCC := hide (cut_crash (D := D2) (E := E3) (C := C) OK3.out (by rw [HE3.out, H2.out.2.1]) (fun j hj => R0.out j (by rw [H2.out.2.1] at hj; exact hj)) HK.out.2.1 (by rw [blkS_len]; exact HK.out.2.2.1) (by rw [H2.out.2.1]; exact HK.out.2.2.2.1) (blkS_64 _ _) CUT.out (fun i s hs => by rw [hCe]; exact has_crash OK3.out _ cap1 pad1 i s hs) (by rw [hCl, H2.out.2.1]) (fun j hj => read_lenG hl.ok (by rw [hCl]; rw [H2.out.2.1] at hj; exact hj)))
          rw [H2.out.2.1] at HCC
          have HCL := hide hCl
          replace B13 := hide (B13.out.trans (hl.bel.mono B13.out.size))
          have SW := hide (SP.out.bel (B7.out.trans ((BD.out.trans (BR.out.mono BD.out.size)).mono B7.out.size)))
          clear hl hCe hCl CR LW OK3 CUT O KL
          have RA := hide (read_any wr w13 dd C L13.out (at_ : Int) (by unfold I64; have := HAT.out; omega) SW.out)
          have z0 : w13.cell? ⟨g4, 0, none⟩ = some (.int .i64 (at_ : Int)) := (X47.out.below B13.out).cell 0
          go_wp2_with fail
          clear z0
          refine RA.out.mono ?_
          clear RA SW
          rintro r w14 ⟨⟨F1, f1, F2, f2, F3, f3, gs3, rfl, hfd⟩, hb⟩
          replace OD := hide (OD.out.below hb)
          replace L13 := hide (L13.out.below hb)
          replace B13 := hide (B13.out.trans (hb.mono B13.out.size))
          clear hb
          obtain ⟨T, hT⟩ : ∃ T, T = rdS C (at_ : Int) := ⟨_, rfl⟩
          have HT := hide (show (T.1 = 0 → T = (0, u, blkS nb data')) ∧ (qq = 0 → T.1 = 0) by rw [hT]; exact HCC.out.2)
          rw [← hT] at hfd ⊢
          clear hT
          obtain ⟨gc, V5, BS5⟩ := T
          dsimp only at hfd HT ⊢
          obtain ⟨aa, haa⟩ : ∃ aa : Int, aa = if gc = 0 then (at_ : Int) else 0 := ⟨_, rfl⟩
          rw [← haa]
          have FD := hide hfd
          have HAA := hide haa
          clear hfd haa
          unfold fdC
          go_upto_region 23 with fail
          obtain ⟨w15, hw⟩ : ∃ W, W = w14.alloc (.cells #[.int .i64 aa, .int .i64 V5.e, .int .i64 V5.c, .int .i64 V5.i, .int .i64 V5.p, .int .i64 V5.x, .slice F1 V5.fs.length f1, .slice F2 V5.is.length f2, .slice F3 BS5.length f3] 39) := ⟨_, rfl⟩
          have X15 : Hid (Blk w15 w14.heap.size 39 #[.int .i64 aa, .int .i64 V5.e, .int .i64 V5.c, .int .i64 V5.i, .int .i64 V5.p, .int .i64 V5.x, .slice F1 V5.fs.length f1, .slice F2 V5.is.length f2, .slice F3 BS5.length f3]) := hide (by rw [hw]; exact Blk.new _ _ _)
          have ba := (show Below w14.heap.size w14 w15 by rw [hw]; exact (Below.refl _ _).alloc (Nat.le_refl _) _)
          rw [← hw]
          obtain ⟨g15, hgg⟩ : ∃ g, g = w14.heap.size := ⟨_, rfl⟩
          rw [← hgg] at X15 ⊢
          replace OD := hide (OD.out.below ba)
          replace L13 := hide (L13.out.below ba)
          replace B13 := hide (B13.out.trans (ba.mono B13.out.size))
          replace FD := hide (FD.out.below ba)
          clear hw hgg ba
          go_cut [159] (fun y wx => y = .bool false ∧ Old w10.heap.size wx d0 C0 ∧ LD wr wx dd C ∧ Below w7.heap.size w7 wx)
          case first =>
           by_cases hg : gc = 0
           ·
            have hR := HT.out.1 hg
            have hA := HAA.out
            rw [if_pos hg] at hA
            simp only [Prod.mk.injEq] at hR
            obtain ⟨r1, r2, r3⟩ := hR
            have s1 := r1.symm
            have s2 := r2.symm
            have s3 := r3.symm
            have s4 := hA.symm
            clear r1 r2 r3 hA hg HT HAA
            subst s1 s2 s3 s4
            have hcc := And.introW (op9S (X47.out.below B13.out)) (op9S X15.out)
            refine wp_region_noPanic ?_
            refine wp_region_held_drew (S := (fun w' => w'.cell? ⟨g4, 0, none⟩ = some (.int .i64 (at_ : Int)) ∧ w'.cell? ⟨g4, 1, none⟩ = some (.int .i64 u.e) ∧ w'.cell? ⟨g4, 2, none⟩ = some (.int .i64 u.c) ∧ w'.cell? ⟨g4, 3, none⟩ = some (.int .i64 u.i) ∧ w'.cell? ⟨g4, 4, none⟩ = some (.int .i64 u.p) ∧ w'.cell? ⟨g4, 5, none⟩ = some (.int .i64 u.x) ∧ w'.cell? ⟨g4, 6, none⟩ = some (.slice B1 p1 d1) ∧ w'.cell? ⟨g4, 7, none⟩ = some (.slice B2 p2 d2) ∧ w'.cell? ⟨g4, 8, none⟩ = some (.slice B3 q d3) ∧ w'.cell? ⟨g15, 0, none⟩ = some (.int .i64 (at_ : Int)) ∧ w'.cell? ⟨g15, 1, none⟩ = some (.int .i64 u.e) ∧ w'.cell? ⟨g15, 2, none⟩ = some (.int .i64 u.c) ∧ w'.cell? ⟨g15, 3, none⟩ = some (.int .i64 u.i) ∧ w'.cell? ⟨g15, 4, none⟩ = some (.int .i64 u.p) ∧ w'.cell? ⟨g15, 5, none⟩ = some (.int .i64 u.x) ∧ w'.cell? ⟨g15, 6, none⟩ = some (.slice F1 u.fs.length f1) ∧ w'.cell? ⟨g15, 7, none⟩ = some (.slice F2 u.is.length f2) ∧ w'.cell? ⟨g15, 8, none⟩ = some (.slice F3 (blkS nb data').length f3))) (by kernel_rfl) ?_ (fun hHeld => ?_)
            · ((try dsimp only) <;> (first | trivial | assumption | go_keep))
            clear hcc
            replace OD := hide (OD.out.below (Below.refl _ _).drew)
            replace L13 := hide L13.out.drew
            replace B13 := hide (B13.out.trans ((Below.refl w15.heap.size w15).drew.mono B13.out.size))
            replace FD := hide (FD.out.below (Below.refl _ _).drew)
            replace X15 := hide X15.out.drew
            generalize w15.drew = v0 at *
            refine tk 0 ?_
            refine tk 1 ?_
            refine tk 2 ?_
            refine sk 3 ?_
            refine sk 4 ?_
            refine tk 5 ?_
            refine tk 6 ?_
            refine tk 7 ?_
            refine tk 8 ?_
            refine tk 9 ?_
            refine tk 10 ?_
            refine tk 12 ?_
            refine tk 13 ?_
            refine tk 14 ?_
            refine tk 15 ?_
            refine tk 16 ?_
            refine tk 17 ?_
            refine tk 18 ?_
            refine tk 19 ?_
            have RF := ref15 v0 (at_ : Int) u F1 F2 F3 f1 f2 (blkS nb data').length f3 (blkS nb data') FD.out.b.txs (by rw [blkS_len]; have := HNB.out.1; omega)
            unfold fdC at RF
            have V := hide (Below.refl v0.heap.size v0)
            refine wpAnyH_ready (rs := [11]) (by kernel_rfl) (by simp) ?_
            refine AllReadyH.cons (by simp only [List.getElem?_toArray, List.getElem?_cons_succ, List.getElem?_cons_zero]; rfl) (fun K hK => ?_) ?_
            rotate_left 1
            · exact AllReadyH.nil
            go_simp
            refine RF.mono ?_; rintro r v1 ⟨A5, c5, rfl, ho, hb⟩; have O5 := hide ho; replace V := hide hb; have hcc := And.introW (op9S (X47.out.below (B13.out.trans (hb.mono B13.out.size)))) (op9S (X15.out.below hb)); clear ho hb
            refine hK.out _ _ ?_ (fun hHeld2 => ?_)
            · ((try dsimp only) <;> (first | trivial | assumption | go_keep))
            clear hHeld
            have hHeld := hHeld2
            clear hHeld2 hK K
            try simp only [Act.put, List.setIfInBounds_toArray, List.set_cons_zero, List.set_cons_succ]
            clear hHeld RF
            have hHeld := hcc
            clear hcc
            have BK2 := BK.out v1 (B13.out.trans (V.out.mono B13.out.size))
            refine wpAnyH_ready (rs := [20]) (by kernel_rfl) (by simp) ?_
            refine AllReadyH.cons (by simp only [List.getElem?_toArray, List.getElem?_cons_succ, List.getElem?_cons_zero]; rfl) (fun K hK => ?_) ?_
            rotate_left 1
            · exact AllReadyH.nil
            go_simp
            refine BK2.mono ?_; rintro r v2 ⟨A6, c6, gs6, rfl, hR, hb⟩; have RT6 := hide hR; replace O5 := hide (own_bel O5.out hb); replace V := hide (V.out.trans (hb.mono V.out.size)); have hcc := And.introW (op9S (X47.out.below (B13.out.trans (V.out.mono B13.out.size)))) (op9S (X15.out.below V.out)); clear hR hb
            refine hK.out _ _ ?_ (fun hHeld2 => ?_)
            · ((try dsimp only) <;> (first | trivial | assumption | go_keep))
            clear hHeld
            have hHeld := hHeld2
            clear hHeld2 hK K
            try simp only [Act.put, List.setIfInBounds_toArray, List.set_cons_zero, List.set_cons_succ]
            clear hHeld BK2
            have hHeld := hcc
            clear hcc
            have TX := texts15 v2 A6 nb c6 (blkS nb data') (by have := RT6.out.txs; rw [blkS_len] at this; exact this) (by have := HNB.out.1; omega)
            refine wpAnyH_ready (rs := [21]) (by kernel_rfl) (by simp) ?_
            refine AllReadyH.cons (by simp only [List.getElem?_toArray, List.getElem?_cons_succ, List.getElem?_cons_zero]; rfl) (fun K hK => ?_) ?_
            rotate_left 1
            · exact AllReadyH.nil
            go_simp
            refine TX.mono ?_; rintro r v3 ⟨A7, c7, rfl, ho, hb⟩; have O7 := hide ho; replace O5 := hide (own_bel O5.out hb); replace V := hide (V.out.trans (hb.mono V.out.size)); have hcc := And.introW (op9S (X47.out.below (B13.out.trans (V.out.mono B13.out.size)))) (op9S (X15.out.below V.out)); clear ho hb
            refine hK.out _ _ ?_ (fun hHeld2 => ?_)
            · ((try dsimp only) <;> (first | trivial | assumption | go_keep))
            clear hHeld
            have hHeld := hHeld2
            clear hHeld2 hK K
            try simp only [Act.put, List.setIfInBounds_toArray, List.set_cons_zero, List.set_cons_succ]
            clear hHeld TX RT6
            have hHeld := hcc
            clear hcc
            refine tk 22 ?_
            have hfl : ∀ f ∈ u.fs, f.ls.length ≤ 1000000 := fun f hf => by have := lsN_all hls2 f hf; omega
            have SM := same15 v3 (at_ : Int) (at_ : Int) u u F1 F2 A5 B1 B2 A7 u.fs.length f1 u.is.length f2 (blkS nb data').length c5 p1 d1 p2 d2 nb c7 _ _ _ _ _ _ _ _ _ _ (blkS nb data') (blkS nb data') (FD.out.f.below V.out) (HU.out.f.bx (B13.out.trans (V.out.mono B13.out.size))) (RwAt.below FD.out.i V.out) (RwAt.bx HU.out.i (B13.out.trans (V.out.mono B13.out.size))) (by rw [HLN.out.1]; omega) (by omega) (by rw [HLN.out.2]; omega) (by omega) hfl hfl (Sl.of_own O5.out) (Sl.of_own O7.out) (Nat.le_refl _) (Nat.le_refl _) (by rw [blkS_len]; have := HNB.out.1; omega) (by have := HNB.out.1; omega)
            rw [decide_eq_true ⟨rfl, rfl, rfl⟩] at SM
            unfold rfC at SM
            refine wpAnyH_ready (rs := [23]) (by kernel_rfl) (by simp) ?_
            refine AllReadyH.cons (by simp only [List.getElem?_toArray, List.getElem?_cons_succ, List.getElem?_cons_zero]; rfl) (fun K hK => ?_) ?_
            rotate_left 1
            · exact AllReadyH.nil
            go_simp
            refine SM.mono ?_; rintro r v4 ⟨rfl, hb⟩; replace V := hide (V.out.trans (hb.mono V.out.size)); have hcc := And.introW (op9S (X47.out.below (B13.out.trans (V.out.mono B13.out.size)))) (op9S (X15.out.below V.out)); clear hb
            refine hK.out _ _ ?_ (fun hHeld2 => ?_)
            · ((try dsimp only) <;> (first | trivial | assumption | go_keep))
            clear hHeld
            have hHeld := hHeld2
            clear hHeld2 hK K
            try simp only [Act.put, List.setIfInBounds_toArray, List.set_cons_zero, List.set_cons_succ]
            clear hHeld SM O5 O7
            have hHeld := hcc
            clear hcc
            refine tk 24 ?_
            refine tk 25 ?_
            refine tk 26 ?_
            refine wpAnyH_done (by kernel_rfl) ?_ _
            refine NoPanic.normal ?_
            clear hHeld hfl
            replace B13 := hide (B13.out.trans (V.out.mono B13.out.size))
            replace OD := hide (OD.out.below V.out)
            replace L13 := hide (L13.out.below V.out)
            go_wp2_with fail
            go_meet
            exact ⟨rfl, OD.out, L13.out, B13.out⟩
           ·
            have hgn : (gc != 0) = true := bne_iff_ne.2 hg
            have hge : (gc == 0) = false := beq_eq_false_iff_ne.2 hg
            have hq0 : (qq == 0) = false := beq_eq_false_iff_ne.2 (fun h => hg (HT.out.2 h))
            refine wp_region_noPanic ?_
            refine wp_region_held_drew (S := (fun _ => True)) (by kernel_rfl) ?_ (fun hHeld => ?_)
            · ((try dsimp only) <;> (first | trivial | assumption | go_keep))
            replace OD := hide (OD.out.below (Below.refl _ _).drew)
            replace L13 := hide L13.out.drew
            replace B13 := hide (B13.out.trans ((Below.refl w15.heap.size w15).drew.mono B13.out.size))
            generalize w15.drew = v0 at *
            refine tk 0 ?_
            refine tk 1 ?_
            refine tk 2 ?_
            refine tk 3 ?_
            refine tk 4 ?_
            refine tk 5 ?_
            refine tk 6 ?_
            refine tk 7 ?_
            refine tk 8 ?_
            refine tk 9 ?_
            refine sk 10 ?_
            refine sk 11 ?_
            refine sk 12 ?_
            refine sk 13 ?_
            refine sk 14 ?_
            refine sk 15 ?_
            refine sk 16 ?_
            refine sk 17 ?_
            refine sk 18 ?_
            refine sk 19 ?_
            refine sk 20 ?_
            refine sk 21 ?_
            refine sk 22 ?_
            refine sk 23 ?_
            refine sk 24 ?_
            refine tk 25 ?_
            refine tk 26 ?_
            refine wpAnyH_done (by kernel_rfl) ?_ _
            refine NoPanic.normal ?_
            clear hHeld hgn hge hq0
            go_wp2_with fail
            go_meet
            exact ⟨rfl, OD.out, L13.out, B13.out⟩
          case rest =>
            obtain ⟨rfl, hod, hl13, hb13⟩ := hcut
            clear OD L13 B13 X15 FD HT HAA
            have OD := hide hod
            have L13 := hide hl13
            have B13 := hide hb13
            clear hod hl13 hb13
            obtain ⟨vv, rfl⟩ : ∃ W, W = wc := ⟨_, rfl⟩
            go_wp2_with fail
            refine wh_loop w7 w10 wr vv at_ x p1 p2 q d1 d2 d3 d0 dd g4 nb u B1 B2 B3 data' C C0 D2 qq HU X47 HC0 S10 HLN HK HAT h40 h120 hls2 HCC HCL R0 OD L13 B13 _ _ _ _ _ _ _ _ _ _ _ _ _ _ _ _ _ _ _ _ _ _ _ _ _ _ _ _ _ _ _ _ _ _ _ _ _ _ _ _ _ _ _ _ _ _ _ _ _ _ _ _ _ _ _ _ _ _ _ _ _ _ _ _ _ _ _ _ _ _ _ _ _ _ _ _ _ _ _ _ _ _ _ _ _ _ _ _ _ _ _ _ _ _ _ _ _ _ _ _ _ _ _ _ _ _ _ _ _ _ _ _ _ _ _ _ _ _ _ _ _ _ _ _ _ _ _ _ _ _ _ _ _ _ _ _ _ _ _ _ _ _ _ _ _ _ _ _ _ _ _ _ _ _ _ _ _ _ _ _ _ _ _ _ _ _ _ _ _ _ _ _ _ _ _ _ _ _ _ _ _ _ _ _ _ _ _ _ _ _ _ _ _ _ _ _ _ _ _ _ _ _ _ _ _ _ _ _ _ _ _ ?_
            intro u6 u17 u18 u19 u20 u21 u22 u160 u161 u162 u163 u164 u165 u166 u167 u168 u169 u170 u171 u172 u173 u174 u175 u176 u177 u178 u179 u180 u181 u182 u183 u184 u185 u186 u187 u188 u189 u190 u191 u192 u193 u194 u195 u196 u197 u198 u199 u200 u201 u202 u203 u204 u205 u206 u207 u208 u209 u210 u211 u212 u213 w2' hb'
            have BX := hide hb'
            clear hb'
            go_wp2_with fail
            go_ret
            exact ⟨rfl, B7.out.trans ((B13.out.trans (BX.out.mono B13.out.size)).mono B7.out.size)⟩
end Go.Proofs.YtlobkefacnedeaaDoor
