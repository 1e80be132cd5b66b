/- The walk over the reference's New. -/
import Derived.Test.YtpcaaobninnkaaaDrfBW
namespace Go.Proofs.Ytpcaaobninnkaaa
open Go.RowKit

/-- No disk. -/
def zeroD : Dsk := ⟨[], [], 0, 0, 0, #[]⟩
theorem rnew_no (n : Int) (w : World) (h : ¬ (1 ≤ n ∧ n ≤ 4096)) :
    Calls Try.prog 21 #[.int .i64 n] w fun e w' => e = .returned (.tuple #[.agg (refV none 0 none 0 zeroD), .int .i64 22]) ∧ Below w.heap.size w w' := by
  by_cases h1 : n < 1
  · go_enter Try.func21, Try.ntmps21
    go_wp2_with fail
    exact bodyPost_ret (v := .tuple #[.agg #[.slice none 0 0, .slice none 0 0, .int .i64 0, .int .i64 0], .int .i64 22]) (by simp [results, Try.results21, go_sem]) rfl ⟨rfl, (Below.refl _ _).alloc (Nat.le_refl _) _⟩
  · have h2 : 4096 < n := by omega
    clear h
    go_enter Try.func21, Try.ntmps21
    go_wp2_with fail
    exact bodyPost_ret (v := .tuple #[.agg #[.slice none 0 0, .slice none 0 0, .int .i64 0, .int .i64 0], .int .i64 22]) (by simp [results, Try.results21, go_sem]) rfl ⟨rfl, (Below.refl _ _).alloc (Nat.le_refl _) _⟩

theorem fresh_ok (n : Nat) (h : n ≤ 4096) : (freshD n).Ok := by
  refine ⟨fun x hx => ?_, (fun x hx => by cases hx), ?_, ⟨Int.le_refl _, (by show (-1 : Int) ≤ 9223372036854775807; decide)⟩, Nat.zero_le _, Nat.zero_le _⟩
  · rw [(List.mem_replicate.1 hx).2]; unfold zero64; rw [List.length_replicate]
  · show (List.replicate n zero64).length ≤ 4096; rw [List.length_replicate]; exact h

set_option maxHeartbeats 1000000 in
theorem rnew_yes (n : Nat) (w : World) (h1 : 1 ≤ n) (h2 : n ≤ 4096) :
    Calls Try.prog 21 #[.int .i64 (n : Int)] w fun e w' => ∃ As cs, e = .returned (.tuple #[.agg (refV As cs none 0 (freshD n)), .int .i64 0]) ∧ RefM w' w.heap.size As cs none 0 (freshD n) ∧ Below w.heap.size w w' := by
  obtain ⟨zl, hzl⟩ : ∃ zl, zl = zero64 := ⟨_, rfl⟩
  have km := mk_64
  simp only [← hzl] at km
  have hz64 : Hid (zl.length = 64) := hide (by rw [hzl]; unfold zero64; rw [List.length_replicate])
  replace hzl := hide hzl
  obtain ⟨cv, hcv⟩ := cv_ex Try.prog 22 9
  go_enter Try.func21, Try.ntmps21
  go_wp2_with fail
  go_loopw [5] (fun x wr => ∃ (j : Nat) (A : Option Addr) (c : Nat), j ≤ n ∧ x = .int .i64 (j : Int) ∧ Blk wr (w.heap.size + 1) 51 #[.slice A j c, .slice none 0 0, .int .i64 0, .int .i64 (-1)] ∧ (∃ z0 z1 z2 z3, Blk wr w.heap.size 51 #[z0, z1, z2, z3]) ∧
    wr.ownsRow w.heap.size 9 1 (.slice A j c) j (strC (List.replicate j zl)) ∧ (∀ g, (Value.slice A 0 0).ownBlock = some g → w.heap.size + 2 ≤ g) ∧ Below w.heap.size w wr) (fun x _ => n - (intOf x).toNat)
  case atStart =>
    refine ⟨0, none, 0, Nat.zero_le _, rfl, ?_, ⟨_, _, _, _, (Blk.new w _ _).alloc _⟩, World.ownsRow_nil _ _ _ _, (fun g hg => by cases hg), ((Below.refl _ _).alloc (Nat.le_refl _) _).alloc (by simp) _⟩
    have := Blk.new (w.alloc (.cells #[.slice none 0 0, .slice none 0 0, .int .i64 0, .int .i64 0] 51)) 51 #[.slice none 0 0, .slice none 0 0, .int .i64 0, .int .i64 (-1)]
    rwa [World.size_alloc] at this
  case round =>
    obtain ⟨j, A, c, hj, rfl, g1, g2, g3, g4, g5⟩ := hrel
    have G1 := hide g1
    have G2 := hide g2
    have G3 := hide g3
    have G4 := hide g4
    have G5 := hide g5
    clear g1 g2 g3 g4 g5
    by_cases hlt : j < n
    · have cz := G1.out.cell 0
      have S0 : wr.cell? ⟨w.heap.size + 1, 0, none⟩ = some (.slice A j c) := cz
      have S1 : (wr.alloc (.cells (u8s zl).toArray 5)).cell? ⟨w.heap.size + 1, 0, none⟩ = some (.slice A j c) := (G1.out.alloc _).cell 0
      have S2 : ((wr.alloc (.cells (u8s zl).toArray 5)).alloc (.cells #[.string (txt zl)] 9)).cell? ⟨w.heap.size + 1, 0, none⟩ = some (.slice A j c) := ((G1.out.alloc _).alloc _).cell 0
      have e1 := cvt' hcv (w := (wr.alloc (.cells (u8s zl).toArray 5)).drew) 64 (by_blk (Blk.new wr _ _).drew hz64.out)
      have hW1 := hide (((G1.out.drew.alloc (.cells (u8s zl).toArray 5)).alloc (.cells #[.string (txt zl)] 9)))
      have hW2 : Hid (∃ z0 z1 z2 z3, Blk ((wr.drew.alloc (.cells (u8s zl).toArray 5)).alloc (.cells #[.string (txt zl)] 9)) w.heap.size 51 #[z0, z1, z2, z3]) := by
        obtain ⟨z0, z1, z2, z3, hz⟩ := G2.out
        exact hide ⟨z0, z1, z2, z3, (hz.drew.alloc _).alloc _⟩
      have hWb := hide ((G5.out.drew.alloc G5.out.size (.cells (u8s zl).toArray 5)).alloc (Nat.le_trans G5.out.size (by simp)) (.cells #[.string (txt zl)] 9))
      have hWo := hide (own_kp G3.out (Kp.of_below (gs := []) (((Below.refl wr.heap.size wr).drew.alloc (Nat.le_refl _) (.cells (u8s zl).toArray 5)).alloc (by simp) (.cells #[.string (txt zl)] 9))) (by simp))
      have hNB : Hid (Blk ((wr.drew.alloc (.cells (u8s zl).toArray 5)).alloc (.cells #[.string (txt zl)] 9)) (wr.heap.size + 1) 9 #[.string (txt zl)]) := by
        have := Blk.new (wr.drew.alloc (.cells (u8s zl).toArray 5)) 9 #[.string (txt zl)]
        rwa [World.size_alloc] at this
      clear cz
      go_wp2_with fail
      go_region_law (
        (obtain ⟨ie, hie, z1, z2, z3⟩ := str_info
         refine step_append_lies _ (by rfl) _ _ _ (by rfl) w.heap.size 9 ie _ 1 16 Try.underlying48 hie z1 z2 z3 rfl (by decide) (.slice A j c) j _ (by rfl) hWo.out ⟨wr.heap.size + 1, 0, none⟩ 1 1 [.string (txt zl)] (by rfl) rfl (World.news_of_block hNB.out) (by intro u hu; simp at hu; rw [hu]; rfl) (by decide) (by simp only [maxLen]; omega) (by omega) (Nat.le_trans hWb.out.size (Nat.le_refl _)) _ rfl ?_
         intro g4 c4 w4 hown4 hg4 hat4 hlt4
         have M1 := hide (blk_grown hW1.out hg4 (fun e => by have := G4.out (w.heap.size + 1) ((ob A j c).symm.trans e.symm); omega))
         have M2 : Hid (∃ z0 z1 z2 z3, Blk w4 w.heap.size 51 #[z0, z1, z2, z3]) := (by
           obtain ⟨z0, z1, z2, z3, hz⟩ := hW2.out
           exact hide ⟨z0, z1, z2, z3, blk_grown hz hg4 (fun e => by have := G4.out w.heap.size ((ob A j c).symm.trans e.symm); omega)⟩)
         have Mb := hide (bel_grow hWb.out hg4 (fun k hk => by have := G4.out k ((ob A j c).symm.trans hk); omega) hWb.out.size)
         have Mo := hide hown4
         have Mg : Hid (w.heap.size + 2 ≤ g4) := hide (by
           rcases hat4 with h | h
           · exact G4.out _ ((ob A j c).symm.trans h)
           · rw [h]; simp; have := G1.out.lt; omega)
         have m0 := M1.out.cell 0
         have m1 := M1.out.frozen 0
         clear hown4 hg4 hat4 hlt4))
      all_goals
        clear S0 S1 S2 e1 m0 m1
        go_wp2_with fail
        go_roundw
        case rel =>
          refine ⟨j + 1, some ⟨g4, 0, none⟩, c4, by omega, by go_num, M1.out.set 0 _, ?_, ?_, (fun g hg => ?_), Mb.out.setCell (p := ⟨w.heap.size + 1, 0, none⟩) (Nat.le_succ _) _⟩
          · obtain ⟨z0, z1, z2, z3, hz⟩ := M2.out
            exact ⟨z0, z1, z2, z3, hz.far (p := ⟨w.heap.size + 1, 0, none⟩) (show w.heap.size ≠ w.heap.size + 1 by omega) _⟩
          · have := own_kp Mo.out ((Kp.refl [w.heap.size + 1] w4).set (p := ⟨w.heap.size + 1, 0, none⟩) (.inl (by simp)) (.slice (some ⟨g4, 0, none⟩) (j + 1) c4)) (fun g hg => by
              simp only [Value.ownBlock, Option.some.injEq] at hg
              have := Mg.out
              simp; omega)
            rw [show strC (List.replicate (j + 1) zl) = strC (List.replicate j zl) ++ [.string (txt zl)] by rw [List.replicate_succ']; simp [strC]]
            exact this
          · simp only [Value.ownBlock, Option.some.injEq] at hg
            have := Mg.out
            omega
        case measure => simp [intOf]; omega
    · have hjn : j = n := by omega
      obtain ⟨c0, c1, c2, c3, f0, f1, f2, f3⟩ := blk4 G1.out
      obtain ⟨z0, z1, z2, z3, hz⟩ := G2.out
      obtain ⟨d0, d1, d2, d3, e0, e1, e2, e3⟩ := blk4 hz
      have Hjn := hide hjn
      clear hjn hz
      go_wp2_with fail
      refine bodyPost_ret (v := .tuple #[.agg #[.slice A j c, .slice none 0 0, .int .i64 0, .int .i64 (-1)], .int .i64 0]) (by simp [results, Try.results21, go_sem, d0, d1, d2, d3]) rfl ?_
      have hbel := bel4 G5.out (Nat.le_refl w.heap.size) (.slice A j c) (.slice none 0 0) (.int .i64 0) (.int .i64 (-1))
      have hk : Kp [w.heap.size] wr _ := (((((Kp.refl _ wr).set (p := ⟨w.heap.size, 0, none⟩) (.inl (by simp)) (.slice A j c)).set (p := ⟨w.heap.size, 1, none⟩) (.inl (by simp)) (.slice none 0 0)).set (p := ⟨w.heap.size, 2, none⟩) (.inl (by simp)) (.int .i64 0)).set (p := ⟨w.heap.size, 3, none⟩) (.inl (by simp)) (.int .i64 (-1)))
      have hlen : (freshD n).sure.length = n := by simp [freshD]
      refine ⟨A, c, ?_, ⟨?_, World.ownsRow_nil _ _ _ _, fresh_ok n h2⟩, hbel⟩
      · unfold refV
        rw [hlen, Hjn.out]
        rfl
      · rw [hlen]
        have := own_kp G3.out hk (fun g hg => by
          have := G4.out g ((ob A j c).symm.trans hg)
          simp; omega)
        rw [hzl.out] at this
        have e := Hjn.out
        subst e
        exact this
end Go.Proofs.Ytpcaaobninnkaaa
