/- The walk of marllaw03.GeomGrows. -/
import Derived.Test.YtdcojnmgipidmaaGeomA
import Derived.Deep.RegionHeld3
namespace Go.Proofs.Ytdcojnmgipidmaa
open Go.RowKit

/-- A boxed struct of three. -/
structure Box3 (w : World) (g : Nat) (a b c : Value) : Prop where
  c0 : w.cell? ⟨g, 0, none⟩ = some a
  c1 : w.cell? ⟨g, 1, none⟩ = some b
  c2 : w.cell? ⟨g, 2, none⟩ = some c
  lt : g < w.heap.size
theorem Box3.new (w : World) (a b c : Value) (t : TypeId) : Box3 (w.alloc (.cells #[a, b, c] t)) w.heap.size a b c := ⟨by simp, by simp, by simp, by simp⟩
theorem Box3.next {w w' : World} {g : Nat} {a b c : Value} (h : Box3 w g a b c) (hb : Below w.heap.size w w') : Box3 w' g a b c :=
  ⟨by rw [hb.cell h.lt]; exact h.c0, by rw [hb.cell h.lt]; exact h.c1, by rw [hb.cell h.lt]; exact h.c2, Nat.lt_of_lt_of_le h.lt hb.size⟩
theorem Box3.drew {w : World} {g : Nat} {a b c : Value} (h : Box3 w g a b c) : Box3 w.drew g a b c := ⟨h.c0, h.c1, h.c2, h.lt⟩
theorem Box3.alloc {w : World} {g : Nat} {a b c : Value} (h : Box3 w g a b c) (o : Obj) : Box3 (w.alloc o) g a b c :=
  h.next ((Below.refl _ _).alloc (Nat.le_refl _) _)

theorem six {w' : World} {g h : Nat} {a b c x y z : Value} (h1 : Box3 w' g a b c) (h2 : Box3 w' h x y z) :
    w'.cell? ⟨g, 0, none⟩ = some a ∧ w'.cell? ⟨g, 1, none⟩ = some b ∧ w'.cell? ⟨g, 2, none⟩ = some c ∧ w'.cell? ⟨h, 0, none⟩ = some x ∧ w'.cell? ⟨h, 1, none⟩ = some y ∧ w'.cell? ⟨h, 2, none⟩ = some z :=
  ⟨h1.c0, h1.c1, h1.c2, h2.c0, h2.c1, h2.c2⟩
theorem bel_drew_alloc {B : Nat} {w w1 : World} (h : Below B w w1) (o : Obj) (hB : B ≤ w1.heap.size) : Below B w (w1.alloc o).drew := (h.alloc hB o).drew

set_option maxRecDepth 100000 in
set_option maxHeartbeats 1000000 in
theorem grows_no (b s i m : Int) (w : World) (h : ¬ GeoP b s i) :
    Calls Try.prog 5 #[geoV b s i, .int .i64 m] w fun e w' => e = .returned (.bool true) ∧ Below w.heap.size w w' := by
  have Hg := hide h
  clear h
  go_enter Try.func5, Try.ntmps5
  go_wp2_with fail
  have Hb0 := hide (Below.refl (w.heap.size + 1) (w.alloc (.cells #[.int .i64 b, .int .i64 s, .int .i64 i] 23)))
  refine (awake_any _).mono ?_
  rintro e w1 ⟨rfl, hb1⟩
  have Hb1 := hide (box_next Hb0.out hb1)
  clear hb1
  obtain ⟨c0, c1, c2⟩ := box3 Hb1.out
  go_wp2_with fail
  clear c0 c1 c2
  refine (check_no b s i _ Hg.out).mono ?_
  rintro e w2 ⟨rfl, hb2⟩
  have Hb2 := hide (box_next Hb1.out hb2)
  clear hb2
  go_wp2_with fail
  refine (awake_any _).mono ?_
  rintro e w3 ⟨rfl, hb3⟩
  have Hb3 := hide (box_next Hb2.out hb3)
  clear hb3
  go_wp2_with fail
  go_ret
  exact ⟨rfl, box_end Hb3.out⟩

set_option maxRecDepth 100000 in
set_option maxHeartbeats 4000000 in
theorem grows_yes (b s i m : Int) (w : World) (h : GeoP b s i) :
    Calls Try.prog 5 #[geoV b s i, .int .i64 m] w fun e w' => e = .returned (.bool true) ∧ Below w.heap.size w w' := by
  have Hg := hide h
  obtain ⟨g1, g2, g3, g4, g5, g6, -⟩ := h
  obtain ⟨d, hd, d0, d1⟩ := more_place m b g1 g2
  have Hd := hide hd
  clear hd
  obtain ⟨k1, k2, k3⟩ := geo_more Hg.out d0 d1
  have Hg2 := hide k1
  clear k1
  obtain ⟨n0, n1⟩ := segsI_bd b s i
  obtain ⟨n2, n3⟩ := segsI_bd (b + d) s i
  go_enter Try.func5, Try.ntmps5
  go_wp2_with fail
  have Hb0 := hide (Below.refl (w.heap.size + 1) (w.alloc (.cells #[.int .i64 b, .int .i64 s, .int .i64 i] 23)))
  refine (awake_any _).mono ?_
  rintro e w1 ⟨rfl, hb1⟩
  have Hb1 := hide (box_next Hb0.out hb1)
  clear hb1
  obtain ⟨c0, c1, c2⟩ := box3 Hb1.out
  go_wp2_with fail
  clear c0 c1 c2
  refine (check_yes b s i _ Hg.out).mono ?_
  rintro e w2 ⟨rfl, hb2⟩
  have Hb2 := hide (box_next Hb1.out hb2)
  clear hb2
  obtain ⟨c0, c1, c2⟩ := box3 Hb2.out
  go_wp2_with fail
  have B1 := Box3.alloc (⟨c0, c1, c2, by have := Hb2.out.size; simp at this; omega⟩ : Box3 w2 w.heap.size (.int .i64 b) (.int .i64 s) (.int .i64 i)) (.cells #[.int .i64 b, .int .i64 s, .int .i64 i] 23)
  have HB := hide B1
  obtain ⟨a0, a1, a2, -⟩ := B1
  have hlt : w.heap.size < w2.heap.size := by have := Hb2.out.size; simp at this; omega
  clear c0 c1 c2
  go_region
  clear a0 a1 a2
  have hbd : wrap64 (b + d) = b + d := IntWalk.wrap64_in _ (by omega)
  rw [Hd.out, hbd]
  have hbw := bel_drew_alloc (box_end Hb2.out) (.cells #[.int .i64 (b + d), .int .i64 s, .int .i64 i] 23) (box_end Hb2.out).size
  have BS := (Box3.alloc (⟨by rw [Hb2.out.cell (by simp)]; simp, by rw [Hb2.out.cell (by simp)]; simp, by rw [Hb2.out.cell (by simp)]; simp, hlt⟩ : Box3 w2 w.heap.size (.int .i64 b) (.int .i64 s) (.int .i64 i)) (.cells #[.int .i64 (b + d), .int .i64 s, .int .i64 i] 23)).drew
  have BT := (Box3.new w2 (.int .i64 (b + d)) (.int .i64 s) (.int .i64 i) 23).drew
  have HBW := hide hbw
  have HBS := hide BS
  have HBT := hide BT
  clear BS BT HB hbw hbd
  generalize w2.heap.size = g at *
  generalize (w2.alloc (.cells #[.int .i64 (b + d), .int .i64 s, .int .i64 i] 23)).drew = w3 at *
  clear Hb2 w2 Hb1 w1 Hb0 Hd
  go_upto_region 5 with fail
  go_cut [41] (fun v wx => v = .bool false ∧ Below w3.heap.size w3 wx)
  case first =>
    obtain ⟨a0, a1, a2, -⟩ := HBS.out
    obtain ⟨t0, t1, t2, -⟩ := HBT.out
    go_region_held3 (fun w' => w'.cell? ⟨w.heap.size, 0, none⟩ = some (.int .i64 b) ∧ w'.cell? ⟨w.heap.size, 1, none⟩ = some (.int .i64 s) ∧ w'.cell? ⟨w.heap.size, 2, none⟩ = some (.int .i64 i) ∧ w'.cell? ⟨g, 0, none⟩ = some (.int .i64 (b + d)) ∧ w'.cell? ⟨g, 1, none⟩ = some (.int .i64 s) ∧ w'.cell? ⟨g, 2, none⟩ = some (.int .i64 i))
      (first | go_keep | assumption)
      (first
      | (go_at_call 17; refine (check_yes _ _ _ _ Hg2.out).mono ?_; rintro e w4 ⟨rfl, hb4⟩; have Hb4 := hide hb4; have hS4 := six (HBS.out.drew.next hb4) (HBT.out.drew.next hb4))
      | (go_at_call_of 16 (b + d); refine (segs_any _ _ _ _).mono ?_; rintro e w5 ⟨rfl, hb5⟩; have hS5 := six ((HBS.out.drew.next Hb4.out).next hb5) ((HBT.out.drew.next Hb4.out).next hb5); have Hb5 := hide hb5)
      | (go_at_call 16; refine (segs_any _ _ _ _).mono ?_; rintro e w6 ⟨rfl, hb6⟩; have hS6 := six (((HBS.out.drew.next Hb4.out).next Hb5.out).next hb6) (((HBT.out.drew.next Hb4.out).next Hb5.out).next hb6); have Hb6 := hide hb6))
    all_goals (go_wp2_with fail; go_meet; exact ⟨by simp [k2], (Below.refl w3.heap.size w3).drew.trans (Hb4.out.trans ((Hb5.out.mono Hb4.out.size).trans (Hb6.out.mono (Nat.le_trans Hb4.out.size Hb5.out.size))))⟩)
  case rest =>
    obtain ⟨rfl, hb4⟩ := hcut
    have Hb4 := hide hb4
    clear hb4
    go_wp2_with fail
    go_loopw [6] (fun v wr => ∃ k : Int, 0 ≤ k ∧ k ≤ segsI b s i ∧ v = .int .i64 k ∧ Below w3.heap.size w3 wr) (fun v _ => (segsI b s i - intOf v).toNat)
    case atStart => exact ⟨0, by omega, n0, rfl, Hb4.out⟩
    case round =>
      obtain ⟨k, k0, k1, rfl, hb5⟩ := hrel
      have Hb5 := hide hb5
      clear hb5
      obtain ⟨a0, a1, a2, -⟩ := HBS.out.next Hb5.out
      obtain ⟨t0, t1, t2, -⟩ := HBT.out.next Hb5.out
      go_wp2_with fail
      refine (segs_any b s i _).mono ?_
      rintro e w6 ⟨rfl, hb6⟩
      have Hb6 := hide (Hb5.out.trans (hb6.mono Hb5.out.size))
      clear hb6 a0 a1 a2 t0 t1 t2
      obtain ⟨a0, a1, a2, -⟩ := HBS.out.next Hb6.out
      obtain ⟨t0, t1, t2, -⟩ := HBT.out.next Hb6.out
      by_cases hk : k < segsI b s i
      · go_wp2_with fail
        refine (first_yes b s i k _ k0 hk).mono ?_
        rintro e w7 ⟨rfl, hb7⟩
        have Hb7 := hide (Hb6.out.trans (hb7.mono Hb6.out.size))
        clear hb7 a0 a1 a2 t0 t1 t2
        obtain ⟨t0, t1, t2, -⟩ := HBT.out.next Hb7.out
        go_wp2_with fail
        refine (first_yes (b + d) s i k _ k0 (by omega)).mono ?_
        rintro e w8 ⟨rfl, hb8⟩
        have Hb8 := hide (Hb7.out.trans (hb8.mono Hb7.out.size))
        clear hb8 t0 t1 t2
        go_wp2_with fail
        go_roundw
        case rel => exact ⟨k + 1, by omega, by omega, rfl, Hb8.out⟩
        case measure => simp [intOf]; omega
      · have hm : (segsI (b + d) s i - segsI b s i) * s ≤ 1000000 := by omega
        have hm0 : 0 ≤ (segsI (b + d) s i - segsI b s i) * s := Int.mul_nonneg (by omega) (by omega)
        have e1 : IntKind.i64.wrap (segsI (b + d) s i - segsI b s i) = segsI (b + d) s i - segsI b s i := IntWalk.i64_in _ (by omega)
        have e2 : IntKind.i64.wrap ((segsI (b + d) s i - segsI b s i) * s) = (segsI (b + d) s i - segsI b s i) * s := IntWalk.i64_in _ (by omega)
        have e3 : IntKind.i64.wrap (b + d - b) = d := by rw [IntWalk.i64_in _ (by omega)]; omega
        have e4 : IntKind.i64.wrap (d + s) = d + s := IntWalk.i64_in _ (by omega)
        go_wp2_with fail
        go_region_held3 (fun w' => w'.cell? ⟨w.heap.size, 0, none⟩ = some (.int .i64 b) ∧ w'.cell? ⟨w.heap.size, 1, none⟩ = some (.int .i64 s) ∧ w'.cell? ⟨w.heap.size, 2, none⟩ = some (.int .i64 i) ∧ w'.cell? ⟨g, 0, none⟩ = some (.int .i64 (b + d)) ∧ w'.cell? ⟨g, 1, none⟩ = some (.int .i64 s) ∧ w'.cell? ⟨g, 2, none⟩ = some (.int .i64 i))
          (first | go_keep | assumption)
          (first
          | (go_at_call_of 16 (b + d); refine (segs_any _ _ _ _).mono ?_; rintro e w7 ⟨rfl, hb7⟩; have Hb7 := hide ((Hb6.out.drew).trans (hb7.mono Hb6.out.size)); have hS7 := six (HBS.out.next Hb7.out) (HBT.out.next Hb7.out))
          | (go_at_call 16; refine (segs_any _ _ _ _).mono ?_; rintro e w8 ⟨rfl, hb8⟩; have Hb8 := hide (Hb7.out.trans (hb8.mono Hb7.out.size)); have hS8 := six (HBS.out.next Hb8.out) (HBT.out.next Hb8.out)))
        all_goals (go_wp2_with fail; go_ret; exact ⟨by simp [k3], HBW.out.trans (Hb8.out.mono HBW.out.size)⟩)

theorem grows_all (b s i m : Int) (w : World) :
    Calls Try.prog 5 #[geoV b s i, .int .i64 m] w fun e w' => e = .returned (.bool true) ∧ Below w.heap.size w w' := by
  by_cases h : GeoP b s i
  · exact grows_yes b s i m w h
  · exact grows_no b s i m w h
end Go.Proofs.Ytdcojnmgipidmaa
