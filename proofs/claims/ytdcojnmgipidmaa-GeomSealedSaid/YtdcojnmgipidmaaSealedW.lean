/- The walk of marllaw03.GeomSealed. -/
import Derived.Test.YtdcojnmgipidmaaGeomDecW
import Derived.Test.YtdcojnmgipidmaaGeomA
namespace Go.Proofs.Ytdcojnmgipidmaa
open Go.RowKit

theorem at64 (a : Int) : ∃ k : Nat, RowKit.wrap64 ((IntKind.u64.wrap a).tmod 64) = k ∧ k < 64 := by
  have h0' : 0 ≤ IntKind.u64.wrap a := by simp [IntKind.wrap, IntKind.bits, IntKind.signed]; omega
  generalize IntKind.u64.wrap a = u at *
  rw [Int.tmod_eq_emod_of_nonneg h0']
  have e1 := Int.emod_nonneg u (show (64 : Int) ≠ 0 by omega)
  have e2 := Int.emod_lt_of_pos u (show (0 : Int) < 64 by omega)
  exact ⟨(u % 64).toNat, by rw [IntWalk.wrap64_in _ (by omega)]; omega, by omega⟩
theorem u8_of {y : Nat} (hy : y < 256) : ((UInt8.ofNat y).toNat : Int) = y := by rw [UInt8.toNat_ofNat']; omega
theorem decV_geo {b s i : Nat} (hg : GeoP b s i) {v : Value} (h : DecV (sealed (geoBytes b s i)) v) : v = .tuple #[geoV b s i, .int .i64 0] := by
  have hb : b < 4294967296 ∧ s < 4294967296 ∧ i < 4294967296 := by unfold GeoP at hg; omega
  unfold DecV IsGeo at h
  rw [at4_geo0 _ _ _ hb.1, at4_geo1 _ _ _ hb.2.1, at4_geo2 _ _ _ hb.2.2] at h
  rcases h with ⟨_, h⟩ | ⟨h, _⟩
  · exact h
  · exact absurd ⟨hg, rfl⟩ h

set_option maxHeartbeats 400000 in
theorem sealed_no (b s i a y : Int) (w : World) (h : ¬ GeoP b s i) :
    Calls Try.prog 8 #[geoV b s i, .int .i64 a, .int .u8 y] w fun e w' => e = .returned (.bool true) ∧ Below w.heap.size w w' := by
  have Hg := hide h
  clear h
  go_enter Try.func8, Try.ntmps8
  go_wp2_with fail
  have Hb0 := hide (Below.refl (w.heap.size + 1) (w.alloc (.cells #[.int .i64 b, .int .i64 s, .int .i64 i] 23)))
  refine (awake_any _).mono ?_
  rintro e w1 ⟨rfl, hb1⟩
  have Hb1 := hide (box_next Hb0.out hb1)
  obtain ⟨c0, c1, c2⟩ := box3 Hb1.out
  clear hb1
  go_wp2_with fail
  refine (enc_no b s i _ Hg.out).mono ?_
  rintro e w2 ⟨rfl, hb2⟩
  have Hb2 := hide (box_next Hb1.out hb2)
  clear hb2
  go_wp2_with fail
  go_ret
  exact ⟨rfl, box_end Hb2.out⟩

set_option maxHeartbeats 1000000 in
theorem sealed_yes (b s i : Nat) (a : Int) (y : Nat) (w : World) (h : GeoP b s i) (hy : y < 256) :
    Calls Try.prog 8 #[geoV b s i, .int .i64 a, .int .u8 y] w fun e w' => e = .returned (.bool true) ∧ Below w.heap.size w w' := by
  obtain ⟨k, hk, hk64⟩ := at64 a
  have Hg := hide h
  clear h
  go_enter Try.func8, Try.ntmps8
  go_wp2_with fail
  have Hb0 := hide (Below.refl (w.heap.size + 1) (w.alloc (.cells #[.int .i64 b, .int .i64 s, .int .i64 i] 23)))
  refine (awake_any _).mono ?_
  rintro e w1 ⟨rfl, hb1⟩
  have Hb1 := hide (box_next Hb0.out hb1)
  obtain ⟨c0, c1, c2⟩ := box3 Hb1.out
  clear hb1
  go_wp2_with fail
  refine (enc_yes b s i _ Hg.out).mono ?_
  rintro e w2 ⟨A, c, rfl, hown2, hb2⟩
  have HK2 := hide (Blk.new w 23 #[.int .i64 b, .int .i64 s, .int .i64 i])
  have Hb2 := hide (box_next Hb1.out hb2)
  have Hown2 := hide hown2
  clear hb2 hown2 c0 c1 c2
  obtain ⟨ad, u, rfl, hadb, hadl, hu, hcell, hfz, hset⟩ := own_at Hown2.out hk64
  have hkl : k < (sealed (geoBytes b s i)).length := by rw [geo_length]; exact hk64
  rw [u8s_get, List.getElem?_eq_getElem hkl] at hu
  simp only [Option.map_some, Option.some.injEq] at hu
  have Hset := hide hset
  have Hadl := hide hadl
  have Hadb := hide hadb
  clear hset hadl hadb
  generalize hx : (sealed (geoBytes b s i))[k] = x at *
  have Hx := hide hx
  clear hx
  subst hu
  go_wp2_with fail
  have hul : (sealed (geoBytes b s i)).set k (UInt8.ofNat y) = (sealed (geoBytes b s i)).set k (UInt8.ofNat y) := rfl
  have Hrow : OwnBy (w2.setCell (ad.add k) (.int .u8 (y : Int))) w1.heap.size (some ad) 64 c ((sealed (geoBytes b s i)).set k (UInt8.ofNat y)) := by
    have := Hset.out (.int .u8 (y : Int))
    unfold OwnBy
    rw [u8s, List.map_set, u8_of hy]
    exact this
  have HR := hide Hrow
  clear Hrow hul
  have Hb3 := hide (bel_set Hb2.out (Nat.le_trans (by have := Hb1.out.size; simpa using this) Hadb.out) k (.int .u8 (y : Int)))
  have hc64 : 64 ≤ c := by
    obtain ⟨_, _, e, h1, _⟩ := own_form HR.out
    injection e with e1 e2 e3
    omega
  generalize hw3 : w2.setCell (ad.add k) (.int .u8 (y : Int)) = w3 at *
  clear hw3 Hset hcell hfz Hb2 Hb1 Hb0
  by_cases hxy : y = x.toNat
  · have hlst : (sealed (geoBytes b s i)).set k (UInt8.ofNat y) = sealed (geoBytes b s i) := by
      rw [hxy, UInt8.ofNat_toNat, ← Hx.out]
      exact List.set_getElem_self hkl
    rw [hlst] at HR
    refine (dec_open ad c _ (sealed (geoBytes b s i)) _ HR.out.by (Nat.le_refl _) hc64 (geo_sealed b s i)).mono ?_
    rintro e w4 ⟨v, rfl, hv, hb4⟩
    have hv' := decV_geo Hg.out hv
    subst hv'
    have Hb4 := hide (box_next Hb3.out hb4)
    obtain ⟨c0, c1, c2⟩ := box3 Hb4.out
    have hlt4 : w.heap.size < w4.heap.size := by have := Hb4.out.size; simp at this; omega
    clear hb4 hv hlst
    have hyx : (y : Int) = (x.toNat : Int) := by omega
    go_wp2_with fail
    go_ret
    exact ⟨rfl, (box_end Hb4.out).alloc (box_end Hb4.out).size _⟩
  · have hne : UInt8.ofNat y ≠ (sealed (geoBytes b s i))[k] := by
      intro e
      apply hxy
      rw [Hx.out] at e
      have := congrArg UInt8.toNat e
      rw [UInt8.toNat_ofNat'] at this
      omega
    have hbad := sealed_set (geoBytes b s i) k (UInt8.ofNat y) hkl hne
    rw [geoBytes_length] at hbad
    have Hbad := hide hbad
    clear hbad hne
    have C := dec_sum (some ad) c _ _ _ HR.out.by (Nat.le_refl _) hc64 Hbad.out
    unfold noGeo at C
    refine C.mono ?_
    clear C
    rintro e w4 ⟨rfl, hb4⟩
    have Hb4 := hide (box_next Hb3.out hb4)
    obtain ⟨c0, c1, c2⟩ := box3 Hb4.out
    have hlt4 : w.heap.size < w4.heap.size := by have := Hb4.out.size; simp at this; omega
    clear hb4
    have hyx : ((y : Int) == (x.toNat : Int)) = false := by simp; omega
    go_wp2_with fail
    go_ret
    exact ⟨rfl, (box_end Hb4.out).alloc (box_end Hb4.out).size _⟩

theorem sealed_all (b s i a : Int) (y : Nat) (w : World) (hy : y < 256) :
    Calls Try.prog 8 #[geoV b s i, .int .i64 a, .int .u8 y] w fun e w' => e = .returned (.bool true) ∧ Below w.heap.size w w' := by
  by_cases h : GeoP b s i
  · obtain ⟨b', rfl⟩ := Int.eq_ofNat_of_zero_le (show 0 ≤ b by have := h.1; omega)
    obtain ⟨s', rfl⟩ := Int.eq_ofNat_of_zero_le (show 0 ≤ s by have := h.2.2.1; omega)
    obtain ⟨i', rfl⟩ := Int.eq_ofNat_of_zero_le (show 0 ≤ i by have := h.2.2.2.2.1; omega)
    exact sealed_yes b' s' i' a y w h hy
  · exact sealed_no b s i a y w h
end Go.Proofs.Ytdcojnmgipidmaa
