/- The walk over marlref03.Decode. -/
import Derived.Test.YtdcojnmgipidmaaGeomDecW
import Derived.Test.YtdcojnmgipidmaaGeomRefEncW
import Derived.Test.YtdcojnmgipidmaaRefOpen2W
import Derived.Deep.RegionHeld3
namespace Go.Proofs.Ytdcojnmgipidmaa
open Go.RowKit

/-- A number without its lowest bytes. -/
def top4 (l : List UInt8) (j q : Nat) : Nat := at4 l j / 256 ^ q
theorem top4_zero (l : List UInt8) (j : Nat) : top4 l j 0 = at4 l j := by simp [top4]
theorem top4_four (l : List UInt8) (j : Nat) : top4 l j 4 = 0 := by
  have := at4_lt l j
  unfold top4; omega
theorem top4_lt (l : List UInt8) (j q : Nat) : top4 l j q < 4294967296 := Nat.lt_of_le_of_lt (Nat.div_le_self _ _) (at4_lt l j)
theorem top4_step (l : List UInt8) (j r : Nat) (h : r ≤ 3) : top4 l j (r + 1) * 256 + (l.getD (j + r) 0).toNat = top4 l j r := by
  have h1 := (l.getD j 0).toNat_lt
  have h2 := (l.getD (j + 1) 0).toNat_lt
  have h3 := (l.getD (j + 2) 0).toNat_lt
  have h4 := (l.getD (j + 3) 0).toNat_lt
  have hr : r = 0 ∨ r = 1 ∨ r = 2 ∨ r = 3 := by omega
  unfold top4 at4 num4
  rcases hr with rfl | rfl | rfl | rfl <;> (try simp only [Nat.add_zero]) <;> omega
theorem top4_hi (l : List UInt8) (j r : Nat) : top4 l j (r + 1) < 16777216 := by
  have := at4_lt l j
  unfold top4
  rw [Nat.pow_succ, Nat.mul_comm, ← Nat.div_div_eq_div_mul]
  exact Nat.lt_of_le_of_lt (Nat.div_le_self _ _) (by omega)

theorem decV_yes {l : List UInt8} {x y z : Nat} (hx : at4 l 4 = x) (hy : at4 l 8 = y) (hz : at4 l 12 = z) (hg : GeoP x y z) (he : sealed (geoBytes x y z) = l) : DecV l (.tuple #[geoV x y z, .int .i64 0]) := by
  subst hx hy hz
  exact .inl ⟨⟨hg, he⟩, rfl⟩
theorem decV_no {l : List UInt8} {x y z : Nat} (hx : at4 l 4 = x) (hy : at4 l 8 = y) (hz : at4 l 12 = z) (h : ¬ (GeoP x y z ∧ sealed (geoBytes x y z) = l)) : DecV l (noGeo 100) := by
  subst hx hy hz
  exact .inr ⟨h, rfl⟩

theorem rdec_len (A : Option Addr) (n c : Nat) (w : World) (hn : n ≠ 64) :
    Calls Try.prog 21 #[.slice A n c] w fun e w' => e = .returned (noGeo 100) ∧ Below w.heap.size w w' := by
  have hn' : ((n : Int) == 64) = false := by simp; omega
  go_enter Try.func21, Try.ntmps21
  go_wp2
  exact bodyPost_ret (v := noGeo 100) (by simp [results, Try.results21, go_sem, noGeo, geoV]) rfl ⟨rfl, (Below.refl _ _).alloc (Nat.le_refl _) _⟩

set_option maxHeartbeats 400000 in
theorem rdec_sum (A : Option Addr) (c B : Nat) (l : List UInt8) (w : World) (h : By w B A 64 l) (hB : B ≤ w.heap.size) (hc : 64 ≤ c) (hbad : sealed (l.take 60) ≠ l) :
    Calls Try.prog 21 #[.slice A 64 c] w fun e w' => e = .returned (noGeo 101) ∧ Below w.heap.size w w' := by
  have H := hide h
  have Hbad := hide hbad
  clear h hbad
  go_enter Try.func21, Try.ntmps21
  go_wp2_with fail
  refine (ropen_bad A 60 c B l _ (H.out.alloc hB _) (by simp; omega) hc (by omega) Hbad.out).mono ?_
  rintro e w1 ⟨rfl, hb1⟩
  simp only [World.size_alloc] at hb1
  have hB1 := (Blk.new w 26 #[.int .i64 0, .int .i64 0, .int .i64 0]).below (by simpa using hb1)
  obtain ⟨c0, c1, c2, f0, f1, f2⟩ := blk3 hB1
  have Hb1 := hide hb1
  clear hb1
  go_wp2
  exact bodyPost_ret (v := noGeo 101) (by simp [results, Try.results21, go_sem, noGeo, geoV, c0, c1, c2]) rfl ⟨rfl, (((box_end Hb1.out).setCell (Nat.le_refl _) _).setCell (Nat.le_refl _) _).setCell (Nat.le_refl _) _⟩

set_option maxRecDepth 100000 in
set_option maxHeartbeats 4000000 in
theorem rdec_open (A : Option Addr) (c B : Nat) (l : List UInt8) (w : World) (h : By w B A 64 l) (hB : B ≤ w.heap.size) (hc : 64 ≤ c) (hgood : sealed (l.take 60) = l) :
    Calls Try.prog 21 #[.slice A 64 c] w fun e w' => ∃ v, e = .returned v ∧ DecV l v ∧ Below w.heap.size w w' := by
  have H := hide h
  have Hgood := hide hgood
  clear h hgood
  go_enter Try.func21, Try.ntmps21
  go_wp2_with fail
  refine (ropen_good A 60 c B l _ (H.out.alloc hB _) (by simp; omega) hc (by omega) Hgood.out).mono ?_
  rintro e w1 ⟨rfl, hb1⟩
  simp only [World.size_alloc] at hb1
  have HB1 := hide ((Blk.new w 26 #[.int .i64 0, .int .i64 0, .int .i64 0]).below (by simpa using hb1))
  have Hb1 := hide (box_end hb1)
  clear hb1
  go_wp2_with fail
  have HS := hide (Blk.new w1 26 #[.int .i64 0, .int .i64 0, .int .i64 0])
  have Hb2 := hide (Hb1.out.alloc Hb1.out.size (.cells #[.int .i64 0, .int .i64 0, .int .i64 0] 26))
  have HB2 := hide (HB1.out.alloc (.cells #[.int .i64 0, .int .i64 0, .int .i64 0] 26))
  have hlt : w.heap.size < w1.heap.size := HB1.out.lt
  generalize w1.alloc (.cells #[.int .i64 0, .int .i64 0, .int .i64 0] 26) = w2 at *
  clear HB1 Hb1
  go_loopw [7] (fun i' wr => Below w.heap.size w wr ∧ Blk wr w.heap.size 26 #[.int .i64 0, .int .i64 0, .int .i64 0] ∧
    ∃ q : Nat, q ≤ 4 ∧ Blk wr w1.heap.size 26 #[.int .i64 (top4 l 4 q), .int .i64 (top4 l 8 q), .int .i64 (top4 l 12 q)] ∧ i' = .int .i64 ((q : Int) - 1)) (fun i' _ => (intOf i' + 1).toNat)
  case atStart => exact ⟨Hb2.out, HB2.out, 4, by omega, by rw [top4_four, top4_four, top4_four]; exact HS.out, rfl⟩
  case round =>
    obtain ⟨hb3, hB3, q, hq, hS3, rfl⟩ := hrel
    have HB3 := hide hB3
    have Hb3 := hide hb3
    have HY3 := hide (H.out.below (hb3.mono hB))
    clear hb3 hB3
    rcases Nat.eq_zero_or_pos q with rfl | hpos
    · simp only [top4_zero] at hS3
      have HS3 := hide hS3
      clear hS3
      generalize hx : at4 l 4 = x at *
      generalize hy : at4 l 8 = y at *
      generalize hz : at4 l 12 = z at *
      have Hx := hide hx
      have Hy := hide hy
      have Hz := hide hz
      clear hx hy hz
      obtain ⟨c0, c1, c2, -⟩ := blk3 HS3.out
      by_cases hg : GeoP (x : Int) y z
      · have hsg : ((segsI x y z) == 0) = false := by have h1 := segsI_yes hg; have h2 := hg.2.2.2.2.2.2; simp only [beq_eq_false_iff_ne, ne_eq]; rw [h1]; omega
        have hbd : x ≤ 100000 ∧ y ≤ 100000 ∧ z ≤ 100000 := by unfold GeoP at hg; omega
        have Hg := hide hg
        clear hg
        generalize hsge : segsI (x : Int) y z = sg at *
        by_cases he : sealed (geoBytes x y z) = l
        · have He := hide he
          clear he
          go_wp2_with fail
          go_region_with (first | (go_at_call 10; refine (rsegs_any x y z _).mono ?_; rintro e w4 ⟨rfl, hb4⟩; rw [hsge]; have HR4 := hide (HB3.out.drew.below hb4); have HS4 := hide (HS3.out.drew.below hb4); have Hb4 := hide (Hb3.out.drew.trans (hb4.mono Hb3.out.size)); have HY4 := hide (HY3.out.drew.below (hb4.mono (Nat.le_trans hB Hb3.out.size))); have e0 := run_conv_txt (P := Try.prog) w4 Try.underlying41 Try.underlying5 Try.underlying9 c HY4.out; obtain ⟨r0, r1, r2, f0, f1, f2⟩ := blk3 HR4.out; obtain ⟨d0, d1, d2, -⟩ := blk3 HS4.out) | (go_at_call 19; refine (renc_any x y z _ hbd.1 hbd.2.1 hbd.2.2).mono ?_; rintro e w5 ⟨A5, c5, rfl, hown5, hb5⟩; rw [He.out] at hown5; have Hown5 := hide hown5; clear hown5; have e1 := run_conv_txt (P := Try.prog) w5 Try.underlying41 Try.underlying5 Try.underlying9 c5 Hown5.out.by; have e2 := run_conv_txt (P := Try.prog) w5 Try.underlying41 Try.underlying5 Try.underlying9 c (HY4.out.below (hb5.mono (Nat.le_trans hB Hb4.out.size))); have HR5 := hide (HR4.out.below hb5); have HS5 := hide (HS4.out.below hb5); have Hb5 := hide (Hb4.out.trans (hb5.mono Hb4.out.size)); obtain ⟨r0, r1, r2, f0, f1, f2⟩ := blk3 HR5.out; obtain ⟨d0, d1, d2, -⟩ := blk3 HS5.out))
          all_goals go_wp2
          all_goals (
            refine bodyPost_ret (v := .tuple #[geoV x y z, .int .i64 0]) (by simp [results, Try.results21, go_sem, geoV, r0, r1, r2]) rfl ?_
            exact ⟨_, rfl, decV_yes Hx.out Hy.out Hz.out Hg.out He.out, ((Hb5.out.setCell (Nat.le_refl _) _).setCell (Nat.le_refl _) _).setCell (Nat.le_refl _) _⟩)
        · have He := hide he
          have hne := txt_ne he
          clear he
          go_wp2_with fail
          go_region_with (first | (go_at_call 10; refine (rsegs_any x y z _).mono ?_; rintro e w4 ⟨rfl, hb4⟩; rw [hsge]; have HR4 := hide (HB3.out.drew.below hb4); have HS4 := hide (HS3.out.drew.below hb4); have Hb4 := hide (Hb3.out.drew.trans (hb4.mono Hb3.out.size)); have HY4 := hide (HY3.out.drew.below (hb4.mono (Nat.le_trans hB Hb3.out.size))); have e0 := run_conv_txt (P := Try.prog) w4 Try.underlying41 Try.underlying5 Try.underlying9 c HY4.out; obtain ⟨r0, r1, r2, f0, f1, f2⟩ := blk3 HR4.out; obtain ⟨d0, d1, d2, -⟩ := blk3 HS4.out) | (go_at_call 19; refine (renc_any x y z _ hbd.1 hbd.2.1 hbd.2.2).mono ?_; rintro e w5 ⟨A5, c5, rfl, hown5, hb5⟩; have Hown5 := hide hown5; clear hown5; have e1 := run_conv_txt (P := Try.prog) w5 Try.underlying41 Try.underlying5 Try.underlying9 c5 Hown5.out.by; have e2 := run_conv_txt (P := Try.prog) w5 Try.underlying41 Try.underlying5 Try.underlying9 c (HY4.out.below (hb5.mono (Nat.le_trans hB Hb4.out.size))); have HR5 := hide (HR4.out.below hb5); have HS5 := hide (HS4.out.below hb5); have Hb5 := hide (Hb4.out.trans (hb5.mono Hb4.out.size)); obtain ⟨r0, r1, r2, f0, f1, f2⟩ := blk3 HR5.out; obtain ⟨d0, d1, d2, -⟩ := blk3 HS5.out))
          all_goals go_wp2
          all_goals (
            refine bodyPost_ret (v := noGeo 100) (by simp [results, Try.results21, go_sem, noGeo, geoV, r0, r1, r2]) rfl ?_
            exact ⟨_, rfl, decV_no Hx.out Hy.out Hz.out (fun h' => He.out h'.2), ((Hb5.out.setCell (Nat.le_refl _) _).setCell (Nat.le_refl _) _).setCell (Nat.le_refl _) _⟩)
      · have hsg : ((segsI x y z) == 0) = true := by rw [segsI_no hg]; rfl
        have Hg := hide hg
        clear hg
        generalize hsge : segsI (x : Int) y z = sg at *
        go_wp2_with fail
        first
        | go_region_with (go_at_call 10; refine (rsegs_any x y z _).mono ?_; rintro e w4 ⟨rfl, hb4⟩; rw [hsge]; have HR4 := hide (HB3.out.drew.below hb4); have HS4 := hide (HS3.out.drew.below hb4); have Hb4 := hide (Hb3.out.drew.trans (hb4.mono Hb3.out.size)); have HY4 := hide (HY3.out.drew.below (hb4.mono (Nat.le_trans hB Hb3.out.size))); have e0 := run_conv_txt (P := Try.prog) w4 Try.underlying41 Try.underlying5 Try.underlying9 c HY4.out; obtain ⟨r0, r1, r2, f0, f1, f2⟩ := blk3 HR4.out; obtain ⟨d0, d1, d2, -⟩ := blk3 HS4.out)
        | fail
        all_goals go_wp2
        all_goals (
          refine bodyPost_ret (v := noGeo 100) (by simp [results, Try.results21, go_sem, noGeo, geoV, r0, r1, r2]) rfl ?_
          exact ⟨_, rfl, decV_no Hx.out Hy.out Hz.out (fun h' => Hg.out h'.1), ((Hb4.out.setCell (Nat.le_refl _) _).setCell (Nat.le_refl _) _).setCell (Nat.le_refl _) _⟩)
    · obtain ⟨r, rfl⟩ : ∃ r, q = r + 1 := ⟨q - 1, by omega⟩
      have HS3 := hide hS3
      clear hS3
      have hi := show (((r + 1 : Nat) : Int) - 1) = (r : Int) by omega
      simp only [hi]
      obtain ⟨l0, ad, rfl, b0⟩ := By.get HY3.out (k := 4 + r) (by omega)
      obtain ⟨l1, _, e1, b1⟩ := By.get HY3.out (k := 8 + r) (by omega)
      obtain ⟨l2, _, e2, b2⟩ := By.get HY3.out (k := 12 + r) (by omega)
      cases e1; cases e2
      have k0 : 4 + r < 64 := by omega
      have k1 : 8 + r < 64 := by omega
      have k2 : 12 + r < 64 := by omega
      have q0 := top4_step l 4 r (by omega)
      have q1 := top4_step l 8 r (by omega)
      have q2 := top4_step l 12 r (by omega)
      rw [show l.getD (4 + r) 0 = l[4 + r] by simp [List.getD, l0]] at q0
      rw [show l.getD (8 + r) 0 = l[8 + r] by simp [List.getD, l1]] at q1
      rw [show l.getD (12 + r) 0 = l[12 + r] by simp [List.getD, l2]] at q2
      have x0 := top4_hi l 4 r
      have x1 := top4_hi l 8 r
      have x2 := top4_hi l 12 r
      have y0 := l[4 + r].toNat_lt
      have y1 := l[8 + r].toNat_lt
      have y2 := l[12 + r].toNat_lt
      have g1 := hide (show (u8s l)[8 + r]? = some (.int .u8 (l[8 + r].toNat : Int)) by rw [u8s_get, List.getElem?_eq_getElem l1]; rfl)
      have g2 := hide (show (u8s l)[12 + r]? = some (.int .u8 (l[12 + r].toNat : Int)) by rw [u8s_get, List.getElem?_eq_getElem l2]; rfl)
      generalize l[4 + r].toNat = p0 at *
      generalize l[8 + r].toNat = p1 at *
      generalize l[12 + r].toNat = p2 at *
      generalize top4 l 4 (r + 1) = n0 at *
      generalize top4 l 8 (r + 1) = n1 at *
      generalize top4 l 12 (r + 1) = n2 at *
      generalize z0' : top4 l 4 r = m0 at *
      have z0 := hide z0'
      clear z0'
      generalize z1' : top4 l 8 r = m1 at *
      have z1 := hide z1'
      clear z1'
      generalize z2' : top4 l 12 r = m2 at *
      have z2 := hide z2'
      clear z2'
      have t0 : IntKind.i64.wrap (4 + (r : Int)) = ((4 + r : Nat) : Int) := by rw [IntKind.wrap_i64]; omega
      have t1 : IntKind.i64.wrap (8 + (r : Int)) = ((8 + r : Nat) : Int) := by rw [IntKind.wrap_i64]; omega
      have t2 : IntKind.i64.wrap (12 + (r : Int)) = ((12 + r : Nat) : Int) := by rw [IntKind.wrap_i64]; omega
      generalize 4 + r = j0 at *
      generalize 8 + r = j1 at *
      generalize 12 + r = j2 at *
      have i0 : (j0 : Int) < 64 := by omega
      have i1 : (j1 : Int) < 64 := by omega
      have i2 : (j2 : Int) < 64 := by omega
      have v0 : IntKind.i64.wrap (p0 : Int) = p0 := by rw [IntKind.wrap_i64]; omega
      have v1 : IntKind.i64.wrap (p1 : Int) = p1 := by rw [IntKind.wrap_i64]; omega
      have v2 : IntKind.i64.wrap (p2 : Int) = p2 := by rw [IntKind.wrap_i64]; omega
      have u0 : IntKind.i64.wrap ((n0 : Int) * 256) = (n0 : Int) * 256 := by rw [IntKind.wrap_i64]; omega
      have u1 : IntKind.i64.wrap ((n1 : Int) * 256) = (n1 : Int) * 256 := by rw [IntKind.wrap_i64]; omega
      have u2 : IntKind.i64.wrap ((n2 : Int) * 256) = (n2 : Int) * 256 := by rw [IntKind.wrap_i64]; omega
      have s0 : IntKind.i64.wrap ((n0 : Int) * 256 + p0) = (m0 : Int) := by rw [IntKind.wrap_i64]; omega
      have s1 : IntKind.i64.wrap ((n1 : Int) * 256 + p1) = (m1 : Int) := by rw [IntKind.wrap_i64]; omega
      have s2 : IntKind.i64.wrap ((n2 : Int) * 256 + p2) = (m2 : Int) := by rw [IntKind.wrap_i64]; omega
      clear q0 q1 q2 x0 x1 x2 y0 y1 y2
      obtain ⟨c0, c1, c2, f0, f1, f2⟩ := blk3 HS3.out
      go_wp2_with fail
      go_region
      have HS4 := hide (show Blk ((wr.setCell ⟨w1.heap.size, 0, none⟩ (.int .i64 m0)).drew) w1.heap.size 26 #[.int .i64 m0, .int .i64 n1, .int .i64 n2] from (HS3.out.set 0 _).drew)
      have HB4 := hide ((HB3.out.far (p := ⟨w1.heap.size, 0, none⟩) (Nat.ne_of_lt hlt) (.int .i64 m0)).drew)
      have Hb4 := hide ((Hb3.out.setCell (p := ⟨w1.heap.size, 0, none⟩) (Nat.le_of_lt hlt) (.int .i64 m0)).drew)
      have HY4 := hide ((HY3.out.setCell (p := ⟨w1.heap.size, 0, none⟩) (Nat.le_trans hB (Nat.le_of_lt hlt)) (.int .i64 m0)).drew)
      generalize (wr.setCell ⟨w1.heap.size, 0, none⟩ (.int .i64 m0)).drew = W4 at *
      clear HS3 HB3 Hb3 HY3 c0 c1 c2 f0 f1 f2
      clear b0 b1 b2
      obtain ⟨_, e1, _, b1⟩ := HY4.out.cells j1 _ g1.out
      cases e1
      obtain ⟨c0, c1, c2, f0, f1, f2⟩ := blk3 HS4.out
      go_wp2_with fail
      go_region
      have HS5 := hide (show Blk ((W4.setCell ⟨w1.heap.size, 1, none⟩ (.int .i64 m1)).drew) w1.heap.size 26 #[.int .i64 m0, .int .i64 m1, .int .i64 n2] from (HS4.out.set 1 _).drew)
      have HB5 := hide ((HB4.out.far (p := ⟨w1.heap.size, 1, none⟩) (Nat.ne_of_lt hlt) (.int .i64 m1)).drew)
      have Hb5 := hide ((Hb4.out.setCell (p := ⟨w1.heap.size, 1, none⟩) (Nat.le_of_lt hlt) (.int .i64 m1)).drew)
      have HY5 := hide ((HY4.out.setCell (p := ⟨w1.heap.size, 1, none⟩) (Nat.le_trans hB (Nat.le_of_lt hlt)) (.int .i64 m1)).drew)
      generalize (W4.setCell ⟨w1.heap.size, 1, none⟩ (.int .i64 m1)).drew = W5 at *
      clear HS4 HB4 Hb4 HY4 c0 c1 c2 f0 f1 f2
      clear b1
      obtain ⟨_, e2, _, b2⟩ := HY5.out.cells j2 _ g2.out
      cases e2
      obtain ⟨c0, c1, c2, f0, f1, f2⟩ := blk3 HS5.out
      go_wp2_with fail
      go_region
      have HS6 := hide (show Blk ((W5.setCell ⟨w1.heap.size, 2, none⟩ (.int .i64 m2)).drew) w1.heap.size 26 #[.int .i64 m0, .int .i64 m1, .int .i64 m2] from (HS5.out.set 2 _).drew)
      have HB6 := hide ((HB5.out.far (p := ⟨w1.heap.size, 2, none⟩) (Nat.ne_of_lt hlt) (.int .i64 m2)).drew)
      have Hb6 := hide ((Hb5.out.setCell (p := ⟨w1.heap.size, 2, none⟩) (Nat.le_of_lt hlt) (.int .i64 m2)).drew)
      have HY6 := hide ((HY5.out.setCell (p := ⟨w1.heap.size, 2, none⟩) (Nat.le_trans hB (Nat.le_of_lt hlt)) (.int .i64 m2)).drew)
      generalize (W5.setCell ⟨w1.heap.size, 2, none⟩ (.int .i64 m2)).drew = W6 at *
      clear HS5 HB5 Hb5 HY5 c0 c1 c2 f0 f1 f2
      clear b2
      go_wp2_with fail
      go_roundw
      case rel =>
        refine ⟨Hb6.out, HB6.out, r, by omega, ?_, by go_num⟩
        rw [z0.out, z1.out, z2.out]; exact HS6.out
      case measure => simp [intOf]
end Go.Proofs.Ytdcojnmgipidmaa
