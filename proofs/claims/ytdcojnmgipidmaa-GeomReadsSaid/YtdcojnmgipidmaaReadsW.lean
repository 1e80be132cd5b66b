/- The walk of marllaw03.GeomReads. -/
import Derived.Test.YtdcojnmgipidmaaDecBoth
import Derived.Test.YtdcojnmgipidmaaGeomA
import Derived.Test.YtdcojnmgipidmaaConv
import Derived.Deep.RegionHeld3
namespace Go.Proofs.Ytdcojnmgipidmaa
open Go.RowKit

theorem bel_own {w w1 w2 : World} {base : Nat} {c : Nat} (hb1 : Below base w w1) (hB : base ≤ w1.heap.size) (o : Obj)
    (hg : (w1.alloc o).grownBy w2 ((Value.slice (some ⟨w1.heap.size, 0, none⟩) 0 c).ownBlock)) : Below base w w2 :=
  (hb1.alloc hB o).grown hg (Nat.le_trans hB (by simp)) (fun k hk => by
    have hk' : w1.heap.size = k := by simpa [Value.ownBlock] using hk
    omega)

set_option maxHeartbeats 400000 in
theorem reads_big (A : Option Addr) (n cap : Nat) (w : World) (hbig : 1000 < n) :
    Calls Try.prog 7 #[.slice A n cap] w fun e w' => e = .returned (.bool true) ∧ Below w.heap.size w w' := by
  go_enter Try.func7, Try.ntmps7
  go_wp2_with fail
  refine (awake_any _).mono ?_
  rintro e w1 ⟨rfl, hb1⟩
  go_wp2_with fail
  refine (awake_any _).mono ?_
  rintro e w2 ⟨rfl, hb2⟩
  go_wp2_with fail
  go_ret
  exact ⟨rfl, hb1.trans (hb2.mono hb1.size)⟩

theorem decR_yes {l : List UInt8} {x y z : Nat} {code : Int} (h : DecR l x y z code) (hc : code = 0) : GeoP x y z ∧ sealed (geoBytes x y z) = l := by
  rcases h with ⟨_, _, h1, h2⟩ | ⟨_, _, _, h | h⟩
  · exact ⟨h1, h2⟩
  · omega
  · omega

set_option maxHeartbeats 2000000 in
theorem reads_small (A : Option Addr) (n cap : Nat) (l : List UInt8) (w : World) (h : By w w.heap.size A n l) (hs : n ≤ 1000) (hcap : n ≤ cap) :
    Calls Try.prog 7 #[.slice A n cap] w fun e w' => e = .returned (.bool true) ∧ Below w.heap.size w w' := by
  obtain ⟨x, y, z, code, hR, D1, D2⟩ := dec_both l
  have H := hide h
  have HD1 := hide D1
  have HD2 := hide D2
  have HR := hide hR
  clear h D1 D2 hR
  go_enter Try.func7, Try.ntmps7
  go_wp2_with fail
  refine (awake_any _).mono ?_
  rintro e w1 ⟨rfl, hb1⟩
  have H1 := hide (Sl.below H.out hb1)
  go_wp2_with (
    at_builtin
    refine wpList_app _ rfl (.tmp 18) (.tmp 19) _ rfl ety8 w.heap.size (.slice (some ⟨w1.heap.size, 0, none⟩) 0 0) 0 [] rfl (empty_own hb1.size) w.heap.size A n cap (u8s l) rfl
      (H1.out.alloc hb1.size _) (u8s_one l) (by omega) (Nat.le_trans hb1.size (by simp)) ?_
    intro A2 c2 w2 hown2 hg2 _
    simp only [Nat.zero_add, List.nil_append] at hown2
    have Hb2 := hide (bel_own hb1 hb1.size _ hg2)
    have Hown2 := hide hown2
    clear hg2 hown2)
  clear hb1 H1
  have hc2 : n ≤ c2 := by
    obtain ⟨A', c', e, h1, _⟩ := own_form Hown2.out
    injection e with e1 e2 e3
    omega
  refine (HD1.out A2 n c2 _ w2 (Sl.of_own Hown2.out) (Nat.le_refl _) hc2).mono ?_
  rintro e w3 ⟨rfl, hb3⟩
  have Hown3 := hide (own_keep Hown2.out hb3)
  have Hb3 := hide (Hb2.out.trans (hb3.mono Hb2.out.size))
  clear hb3 Hown2
  go_wp2_with fail
  have HS3 := hide (Blk.new w3 23 #[.int .i64 x, .int .i64 y, .int .i64 z])
  refine (HD2.out A n cap _ _ ((Sl.below H.out Hb3.out).alloc Hb3.out.size (.cells #[.int .i64 x, .int .i64 y, .int .i64 z] 23)) (Nat.le_trans Hb3.out.size (by simp)) hcap).mono ?_
  rintro e w4 ⟨rfl, hb4⟩
  have HS4 := hide (HS3.out.below hb4)
  have Hown4 := hide (own_keep (own_keep Hown3.out ((Below.refl _ _).alloc (Nat.le_refl _) _)) hb4)
  have Hb4 := hide ((Hb3.out.alloc Hb3.out.size _).trans (hb4.mono (Nat.le_trans Hb3.out.size (by simp))))
  clear hb4 HS3 Hown3
  go_wp2_with fail
  have HX4 := hide (Blk.new w4 26 #[.int .i64 x, .int .i64 y, .int .i64 z])
  have HS5 := hide (HS4.out.alloc (.cells #[.int .i64 x, .int .i64 y, .int .i64 z] 26))
  have Hown5 := hide (own_keep Hown4.out ((Below.refl _ _).alloc (Nat.le_refl _) (.cells #[.int .i64 x, .int .i64 y, .int .i64 z] 26)))
  have Hb5 := hide (Hb4.out.alloc Hb4.out.size (.cells #[.int .i64 x, .int .i64 y, .int .i64 z] 26))
  have hw4 : w4.heap.size < (w4.alloc (.cells #[.int .i64 x, .int .i64 y, .int .i64 z] 26)).heap.size := by simp
  generalize hw5 : w4.alloc (.cells #[.int .i64 x, .int .i64 y, .int .i64 z] 26) = w5 at *
  clear hw5 HS4 Hown4 Hb4
  obtain ⟨c0, c1, c2', -⟩ := blk3 HS5.out
  obtain ⟨d0, d1, d2, -⟩ := blk3 HX4.out
  obtain ⟨cv, hcv⟩ := cv_ex Try.prog 41 9
  have e4 := cv_txt hcv Try.underlying41 Try.underlying5 Try.underlying9 (w := w5.drew) cap (Sl.below H.out Hb5.out).drew
  have e5 := cv_txt hcv Try.underlying41 Try.underlying5 Try.underlying9 (w := w5.drew) c2 (Sl.of_own Hown5.out).drew
  clear hw4 hc2 hcap hs
  go_region_with (go_at_call 11; refine (ref_any _ _ _ _).mono ?_; rintro e w7 ⟨rfl, hb7⟩; have HX7 := hide (HX4.out.drew.below hb7); have HS7 := hide (HS5.out.drew.below hb7); have Hown7 := hide (own_keep (own_drewN Hown5.out 1) hb7); have Hb7 := hide (Hb5.out.drew.trans (hb7.mono Hb5.out.size)); have e6 := cv_txt hcv Try.underlying41 Try.underlying5 Try.underlying9 (w := w7) cap (Sl.below H.out Hb7.out);  have e7 := cv_txt hcv Try.underlying41 Try.underlying5 Try.underlying9 (w := w7) c2 (Sl.of_own Hown7.out); obtain ⟨d0, d1, d2, -⟩ := blk3 HX7.out)
  all_goals
    clear e4 e5 e6 e7 HX4 HS5 Hown5 Hb5 HX7
    by_cases hcode : code = 0
    · have HG := hide (decR_yes HR.out hcode)
      subst hcode
      obtain ⟨c0, c1, c2, -⟩ := blk3 HS7.out
      go_wp2_with fail
      refine (enc_yes x y z _ HG.out.1).mono ?_
      rintro e w8 ⟨A8, d8, rfl, hown8, hb8⟩
      rw [HG.out.2] at hown8
      have Hown8 := hide hown8
      have Hb8 := hide (Hb7.out.trans (hb8.mono Hb7.out.size))
      clear hown8 hb8
      have e8 := cv_txt hcv Try.underlying41 Try.underlying5 Try.underlying9 (w := w8) cap (Sl.below H.out Hb8.out)
      have e9 := cv_txt hcv Try.underlying41 Try.underlying5 Try.underlying9 (w := w8) d8 Hown8.out.by
      go_wp2_with fail
      go_ret
      exact ⟨rfl, Hb8.out⟩
    · go_wp2_with fail
      go_ret
      exact ⟨rfl, Hb7.out⟩

theorem reads_all (A : Option Addr) (n cap : Nat) (l : List UInt8) (w : World) (h : By w w.heap.size A n l) (hcap : n ≤ cap) :
    Calls Try.prog 7 #[.slice A n cap] w fun e w' => e = .returned (.bool true) ∧ Below w.heap.size w w' := by
  by_cases hs : n ≤ 1000
  · exact reads_small A n cap l w h hs hcap
  · exact reads_big A n cap w (by omega)
end Go.Proofs.Ytdcojnmgipidmaa
