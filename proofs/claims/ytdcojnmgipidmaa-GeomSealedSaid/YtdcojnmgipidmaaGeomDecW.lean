/- The walk over geom.Decode. -/
import Derived.Test.YtdcojnmgipidmaaGeomFourW
import Derived.Test.YtdcojnmgipidmaaOpenW
import Derived.Test.YtdcojnmgipidmaaBlk
namespace Go.Proofs.Ytdcojnmgipidmaa
open Go.RowKit

theorem four_fn2 (p : Nat) (ad : Addr) (j c B : Nat) (l : List UInt8) (w : World) (hp : w.cell? ⟨p, 0, none⟩ = some (.slice (some ad) 60 c)) (h : By w B (some ad) 60 (l.take 60)) (hj : j ≤ 56) :
    Calls Try.prog 27 #[.int .i64 j, .pointer (some ⟨p, 0, none⟩)] w fun e w' => e = .returned (.int .i64 (at4 l j : Nat)) ∧ ∃ k, w' = w.drewN k := by
  have := four_fn p ad j c B _ w hp h hj
  rwa [at4_take _ _ _ (by omega)] at this
theorem blk3 {w : World} {g : Nat} {t : TypeId} {a b c : Value} (h : Blk w g t #[a, b, c]) :
    w.cell? ⟨g, 0, none⟩ = some a ∧ w.cell? ⟨g, 1, none⟩ = some b ∧ w.cell? ⟨g, 2, none⟩ = some c ∧ w.frozen? ⟨g, 0, none⟩ = false ∧ w.frozen? ⟨g, 1, none⟩ = false ∧ w.frozen? ⟨g, 2, none⟩ = false :=
  ⟨h.cell 0, h.cell 1, h.cell 2, h.frozen 0, h.frozen 1, h.frozen 2⟩
/-- The answer that there is no geometry. -/
def noGeo (code : Int) : Value := .tuple #[geoV 0 0 0, .int .i64 code]
/-- Bytes are the block of the geometry that its numbers are. -/
def IsGeo (l : List UInt8) : Prop := GeoP (at4 l 4) (at4 l 8) (at4 l 12) ∧ sealed (geoBytes (at4 l 4) (at4 l 8) (at4 l 12)) = l
/-- What is answered of a sealed block. -/
def DecV (l : List UInt8) (v : Value) : Prop := (IsGeo l ∧ v = .tuple #[geoV (at4 l 4) (at4 l 8) (at4 l 12), .int .i64 0]) ∨ (¬ IsGeo l ∧ v = noGeo 100)

theorem dec_len (A : Option Addr) (n c : Nat) (w : World) (hn : n ≠ 64) :
    Calls Try.prog 20 #[.slice A n c] w fun e w' => e = .returned (noGeo 100) ∧ Below w.heap.size w w' := by
  have hn' : ((n : Int) == 64) = false := by simp; omega
  go_enter Try.func20, Try.ntmps20
  go_wp2
  exact bodyPost_ret (v := noGeo 100) (by simp [results, Try.results20, go_sem, noGeo, geoV]) rfl ⟨rfl, (Below.refl _ _).alloc (Nat.le_refl _) _⟩

set_option maxHeartbeats 400000 in
theorem dec_sum (A : Option Addr) (c B : Nat) (l : List UInt8) (w : World) (h : By w B A 64 l) (hB : B ≤ w.heap.size) (hc : 64 ≤ c) (hbad : sealed (l.take 60) ≠ l) :
    Calls Try.prog 20 #[.slice A 64 c] w fun e w' => e = .returned (noGeo 101) ∧ Below w.heap.size w w' := by
  have H := hide h
  have Hbad := hide hbad
  clear h hbad
  go_enter Try.func20, Try.ntmps20
  go_wp2_with fail
  refine (open_bad A 60 c B l _ (H.out.alloc hB _) (by simp; omega) hc (by omega) Hbad.out).mono ?_
  rintro e w1 ⟨rfl, hb1⟩
  simp only [World.size_alloc] at hb1
  have hB1 := ((Blk.new w 23 #[.int .i64 0, .int .i64 0, .int .i64 0]).below (by simpa using hb1)).alloc (.cells #[.slice none 0 0] 41)
  obtain ⟨c0, c1, c2, f0, f1, f2⟩ := blk3 hB1
  have Hb1 := hide hb1
  clear hb1
  go_wp2
  exact bodyPost_ret (v := noGeo 101) (by simp [results, Try.results20, go_sem, noGeo, geoV, c0, c1, c2]) rfl ⟨rfl, (((((box_end Hb1.out).alloc (box_end Hb1.out).size _).setCell (Nat.le_refl _) _).setCell (Nat.le_refl _) _).setCell (Nat.le_refl _) _)⟩

set_option maxRecDepth 100000 in
set_option maxHeartbeats 2000000 in
theorem dec_open (ad : Addr) (c B : Nat) (l : List UInt8) (w : World) (h : By w B (some ad) 64 l) (hB : B ≤ w.heap.size) (hc : 64 ≤ c) (hgood : sealed (l.take 60) = l) :
    Calls Try.prog 20 #[.slice (some ad) 64 c] w fun e w' => ∃ v, e = .returned v ∧ DecV l v ∧ Below w.heap.size w w' := by
  unfold DecV IsGeo
  have hmf : ∀ (fn : Fn) (first cap : Array Value) (w : World), (Instr.makeFunc fn first cap).run Try.prog w = .ok (.func fn first cap) w := fun _ _ _ _ => rfl
  have H := hide h
  have Hgood := hide hgood
  clear h hgood
  have F4 := hide (fun p ad c B w (hp : w.cell? ⟨p, 0, none⟩ = some (.slice (some ad) 60 c)) (h : By w B (some ad) 60 (l.take 60)) => four_fn2 p ad 4 c B l w hp h (by omega))
  have F8 := hide (fun p ad c B w (hp : w.cell? ⟨p, 0, none⟩ = some (.slice (some ad) 60 c)) (h : By w B (some ad) 60 (l.take 60)) => four_fn2 p ad 8 c B l w hp h (by omega))
  have F12 := hide (fun p ad c B w (hp : w.cell? ⟨p, 0, none⟩ = some (.slice (some ad) 60 c)) (h : By w B (some ad) 60 (l.take 60)) => four_fn2 p ad 12 c B l w hp h (by omega))
  generalize at4 l 4 = x at *
  generalize at4 l 8 = y at *
  generalize at4 l 12 = z at *
  go_enter Try.func20, Try.ntmps20
  go_wp2_with fail
  refine (open_good ad 60 c B l _ (H.out.alloc hB _) (by simp; omega) hc (by omega) Hgood.out).mono ?_
  rintro e w1 ⟨A1, c1, rfl, hown1, hb1⟩
  simp only [World.size_alloc] at hb1 hown1
  obtain ⟨_, ad1, rfl, -⟩ := By.get hown1.by (k := 0) (by omega)
  have HB1 := hide ((Blk.new w 23 #[.int .i64 0, .int .i64 0, .int .i64 0]).below (by simpa using hb1))
  have HL1 := hide (hown1.by)
  have Hb1 := hide (box_end hb1)
  clear hb1 hown1
  have HV := hide (Blk.new w1 41 #[.slice (some ad1) 60 c1])
  have HL2 := hide (HL1.out.alloc (Nat.le_refl _) (.cells #[.slice (some ad1) 60 c1] 41))
  have HB2 := hide (HB1.out.alloc (.cells #[.slice (some ad1) 60 c1] 41))
  have Hb2 := hide (Hb1.out.alloc Hb1.out.size (.cells #[.slice (some ad1) 60 c1] 41))
  have hV := HV.out.cell 0
  go_wp2_with fail
  refine (F4.out _ ad1 c1 _ _ (HV.out.cell 0) HL2.out).mono ?_
  rintro e w2 ⟨rfl, d1, rfl⟩
  go_wp2_with fail
  refine (F8.out _ ad1 c1 _ _ ((HV.out.drewN d1).cell 0) (HL2.out.drewN d1)).mono ?_
  rintro e w2 ⟨rfl, d2, rfl⟩
  go_wp2_with fail
  refine (F12.out _ ad1 c1 _ _ ((HV.out.drewN (d1 + d2)).cell 0) (HL2.out.drewN (d1 + d2))).mono ?_
  rintro e w2 ⟨rfl, d3, rfl⟩
  have HB3 := hide ((HB2.out.drewN (d1 + d2)).drewN d3)
  have Hb3 := hide (bel_dN (bel_dN Hb2.out (d1 + d2)) d3)
  generalize hw3 : ((w1.alloc (.cells #[.slice (some ad1) 60 c1] 41)).drewN (d1 + d2)).drewN d3 = w3 at *
  clear hw3 HV HL2 HB2 Hb2 HL1 HB1 Hb1 F4 F8 F12 hV
  go_wp2_with fail
  by_cases hg : GeoP (x : Int) y z
  · have Hg := hide hg
    clear hg
    by_cases he : sealed (geoBytes x y z) = l
    · have He := hide he
      clear he
      refine (enc_yes x y z _ Hg.out).mono ?_
      rintro e w4 ⟨A4, c4, rfl, hown4, hb4⟩
      rw [He.out] at hown4
      have Hown4 := hide hown4.by
      simp only [World.size_alloc] at hb4
      have HG4 := hide ((Blk.new w3 23 #[.int .i64 x, .int .i64 y, .int .i64 z]).below (by simpa using hb4))
      have HB4 := hide ((HB3.out.alloc (.cells #[.int .i64 x, .int .i64 y, .int .i64 z] 23)).below (by simpa using hb4))
      have Hb4 := hide ((Hb3.out.alloc Hb3.out.size _).trans (hb4.mono (by have := Hb3.out.size; omega)))
      clear hown4 hb4
      have Heq := hide (eqB_self l)
      go_wp2_with fail
      refine (equal_any _ _ _ _ _ _ _ _ l l _ Hown4.out (H.out.below (Hb4.out.mono hB)) (by omega)).mono ?_
      rintro e w5 ⟨rfl, d5, rfl⟩
      rw [Heq.out]
      obtain ⟨c0, c1, c2, f0, f1, f2⟩ := blk3 (HB4.out.drewN d5)
      obtain ⟨g0, g1, g2, -⟩ := blk3 (HG4.out.drewN d5)
      have hne : w.heap.size ≠ w3.heap.size := by have := HB3.out.lt; omega
      go_wp2
      exact bodyPost_ret (v := .tuple #[geoV x y z, .int .i64 0]) (by simp [results, Try.results20, go_sem, geoV, c0, c1, c2]) rfl
        ⟨_, rfl, .inl ⟨⟨Hg.out, He.out⟩, rfl⟩, (((bel_dN Hb4.out d5).setCell (Nat.le_refl _) _).setCell (Nat.le_refl _) _).setCell (Nat.le_refl _) _⟩
    · have He := hide he
      clear he
      refine (enc_yes x y z _ Hg.out).mono ?_
      rintro e w4 ⟨A4, c4, rfl, hown4, hb4⟩
      have Hown4 := hide hown4.by
      simp only [World.size_alloc] at hb4
      have HB4 := hide ((HB3.out.alloc (.cells #[.int .i64 x, .int .i64 y, .int .i64 z] 23)).below (by simpa using hb4))
      have Hb4 := hide ((Hb3.out.alloc Hb3.out.size _).trans (hb4.mono (by have := Hb3.out.size; omega)))
      clear hown4 hb4
      have Heq := hide (eqB_of_ne He.out)
      go_wp2_with fail
      refine (equal_any _ _ _ _ _ _ _ _ (sealed (geoBytes x y z)) l _ Hown4.out (H.out.below (Hb4.out.mono hB)) (by omega)).mono ?_
      rintro e w5 ⟨rfl, d5, rfl⟩
      rw [Heq.out]
      obtain ⟨c0, c1, c2, f0, f1, f2⟩ := blk3 (HB4.out.drewN d5)
      go_wp2
      exact bodyPost_ret (v := noGeo 100) (by simp [results, Try.results20, go_sem, noGeo, geoV, c0, c1, c2]) rfl
        ⟨_, rfl, .inr ⟨fun h' => He.out h'.2, rfl⟩, (((bel_dN Hb4.out d5).setCell (Nat.le_refl _) _).setCell (Nat.le_refl _) _).setCell (Nat.le_refl _) _⟩
  · have Hg := hide hg
    clear hg
    refine (enc_no x y z _ Hg.out).mono ?_
    rintro e w4 ⟨rfl, hb4⟩
    simp only [World.size_alloc] at hb4
    have HB4 := hide ((HB3.out.alloc (.cells #[.int .i64 x, .int .i64 y, .int .i64 z] 23)).below (by simpa using hb4))
    have Hb4 := hide ((Hb3.out.alloc Hb3.out.size _).trans (hb4.mono (by have := Hb3.out.size; omega)))
    clear hb4
    obtain ⟨c0, c1, c2, f0, f1, f2⟩ := blk3 HB4.out
    go_wp2
    exact bodyPost_ret (v := noGeo 100) (by simp [results, Try.results20, go_sem, noGeo, geoV, c0, c1, c2]) rfl
      ⟨_, rfl, .inr ⟨fun h' => Hg.out h'.1, rfl⟩, ((Hb4.out.setCell (Nat.le_refl _) _).setCell (Nat.le_refl _) _).setCell (Nat.le_refl _) _⟩
end Go.Proofs.Ytdcojnmgipidmaa
