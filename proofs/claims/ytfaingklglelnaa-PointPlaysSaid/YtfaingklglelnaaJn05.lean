import Derived.Test.YtfaingklglelnaaJn04
/- The walk over the reference's New. -/
namespace Go.Proofs.Ytfaingklglelnaa
open Go.RowKit

/-- No disk. -/
def zeroD : Dsk := ⟨[], [], 0, 0, 0, #[]⟩
theorem rnew_no (n : Int) (w : World) (h : ¬ (1 ≤ n ∧ n ≤ 4096)) :
    Calls Try.prog 25 #[.int .i64 n] w fun e w' => e = .returned (.tuple #[.agg (refV none 0 none 0 zeroD), .int .i64 22]) ∧ Below w.heap.size w w' := by
  by_cases h1 : n < 1
  · go_enter Try.func25, Try.ntmps25
    go_wp2_with fail
    exact bodyPost_ret (v := .tuple #[.agg #[.slice none 0 0, .slice none 0 0, .int .i64 0, .int .i64 0], .int .i64 22]) (by simp [results, Try.results25, go_sem]) rfl ⟨rfl, (Below.refl _ _).alloc (Nat.le_refl _) _⟩
  · have h2 : 4096 < n := by omega
    clear h
    go_enter Try.func25, Try.ntmps25
    go_wp2_with fail
    exact bodyPost_ret (v := .tuple #[.agg #[.slice none 0 0, .slice none 0 0, .int .i64 0, .int .i64 0], .int .i64 22]) (by simp [results, Try.results25, go_sem]) rfl ⟨rfl, (Below.refl _ _).alloc (Nat.le_refl _) _⟩

theorem fresh_ok (n : Nat) (h : n ≤ 4096) : (freshD n).Ok := by
  refine ⟨fun x hx => ?_, (fun x hx => by cases hx), ?_, ⟨Int.le_refl _, (by show (-1 : Int) ≤ 9223372036854775807; decide)⟩, Nat.zero_le _, Nat.zero_le _⟩
  · rw [(List.mem_replicate.1 hx).2]; unfold zero64; rw [List.length_replicate]
  · show (List.replicate n zero64).length ≤ 4096; rw [List.length_replicate]; exact h

set_option maxHeartbeats 1000000 in
theorem rnew_yes (n : Nat) (w : World) (h1 : 1 ≤ n) (h2 : n ≤ 4096) :
    Calls Try.prog 25 #[.int .i64 (n : Int)] w fun e w' => ∃ As cs, e = .returned (.tuple #[.agg (refV As cs none 0 (freshD n)), .int .i64 0]) ∧ RefM w' w.heap.size As cs none 0 (freshD n) ∧ Below w.heap.size w w' := by
  obtain ⟨zl, hzl⟩ : ∃ zl, zl = zero64 := ⟨_, rfl⟩
  have km := mk_64
  simp only [← hzl] at km
  have hz64 : Hid (zl.length = 64) := hide (by rw [hzl]; unfold zero64; rw [List.length_replicate])
  replace hzl := hide hzl
  obtain ⟨cv, hcv⟩ := cv_ex Try.prog 24 9
  go_enter Try.func25, Try.ntmps25
  go_wp2_with fail
  go_loopw [5] (fun x wr => ∃ (j : Nat) (A : Option Addr) (c : Nat), j ≤ n ∧ x = .int .i64 (j : Int) ∧ Blk wr (w.heap.size + 1) 64 #[.slice A j c, .slice none 0 0, .int .i64 0, .int .i64 (-1)] ∧ (∃ z0 z1 z2 z3, Blk wr w.heap.size 64 #[z0, z1, z2, z3]) ∧
    wr.ownsRow w.heap.size 9 1 (.slice A j c) j (strC (List.replicate j zl)) ∧ (∀ g, (Value.slice A 0 0).ownBlock = some g → w.heap.size + 2 ≤ g) ∧ Below w.heap.size w wr) (fun x _ => n - (intOf x).toNat)
  case atStart =>
    refine ⟨0, none, 0, Nat.zero_le _, rfl, ?_, ⟨_, _, _, _, (Blk.new w _ _).alloc _⟩, World.ownsRow_nil _ _ _ _, (fun g hg => by cases hg), ((Below.refl _ _).alloc (Nat.le_refl _) _).alloc (by simp) _⟩
    have := Blk.new (w.alloc (.cells #[.slice none 0 0, .slice none 0 0, .int .i64 0, .int .i64 0] 64)) 64 #[.slice none 0 0, .slice none 0 0, .int .i64 0, .int .i64 (-1)]
    rwa [World.size_alloc] at this
  case round =>
    obtain ⟨j, A, c, hj, rfl, g1, g2, g3, g4, g5⟩ := hrel
    have G1 := hide g1
    have G2 := hide g2
    have G3 := hide g3
    have G4 := hide g4
    have G5 := hide g5
    clear g1 g2 g3 g4 g5
    by_cases hlt : j < n
    · have cz := G1.out.cell 0
      have S0 : wr.cell? ⟨w.heap.size + 1, 0, none⟩ = some (.slice A j c) := cz
      have S1 : (wr.alloc (.cells (u8s zl).toArray 5)).cell? ⟨w.heap.size + 1, 0, none⟩ = some (.slice A j c) := (G1.out.alloc _).cell 0
      have S2 : ((wr.alloc (.cells (u8s zl).toArray 5)).alloc (.cells #[.string (txt zl)] 9)).cell? ⟨w.heap.size + 1, 0, none⟩ = some (.slice A j c) := ((G1.out.alloc _).alloc _).cell 0
      have e1 := cvt' hcv (w := (wr.alloc (.cells (u8s zl).toArray 5)).drew) 64 (by_blk (Blk.new wr _ _).drew hz64.out)
      have hW1 := hide (((G1.out.drew.alloc (.cells (u8s zl).toArray 5)).alloc (.cells #[.string (txt zl)] 9)))
      have hW2 : Hid (∃ z0 z1 z2 z3, Blk ((wr.drew.alloc (.cells (u8s zl).toArray 5)).alloc (.cells #[.string (txt zl)] 9)) w.heap.size 64 #[z0, z1, z2, z3]) := by
        obtain ⟨z0, z1, z2, z3, hz⟩ := G2.out
        exact hide ⟨z0, z1, z2, z3, (hz.drew.alloc _).alloc _⟩
      have hWb := hide ((G5.out.drew.alloc G5.out.size (.cells (u8s zl).toArray 5)).alloc (Nat.le_trans G5.out.size (by simp)) (.cells #[.string (txt zl)] 9))
      have hWo := hide (own_kp G3.out (Kp.of_below (gs := []) (((Below.refl wr.heap.size wr).drew.alloc (Nat.le_refl _) (.cells (u8s zl).toArray 5)).alloc (by simp) (.cells #[.string (txt zl)] 9))) (by simp))
      have hNB : Hid (Blk ((wr.drew.alloc (.cells (u8s zl).toArray 5)).alloc (.cells #[.string (txt zl)] 9)) (wr.heap.size + 1) 9 #[.string (txt zl)]) := by
        have := Blk.new (wr.drew.alloc (.cells (u8s zl).toArray 5)) 9 #[.string (txt zl)]
        rwa [World.size_alloc] at this
      clear cz
      go_wp2_with fail
      go_region_law (
        (obtain ⟨ie, hie, z1, z2, z3⟩ := str_info
         refine step_append_lies _ (by rfl) _ _ _ (by rfl) w.heap.size 9 ie _ 1 16 Try.underlying61 hie z1 z2 z3 rfl (by decide) (.slice A j c) j _ (by rfl) hWo.out ⟨wr.heap.size + 1, 0, none⟩ 1 1 [.string (txt zl)] (by rfl) rfl (World.news_of_block hNB.out) (by intro u hu; simp at hu; rw [hu]; rfl) (by decide) (by simp only [maxLen]; omega) (by omega) (Nat.le_trans hWb.out.size (Nat.le_refl _)) _ rfl ?_
         intro g4 c4 w4 hown4 hg4 hat4 hlt4
         have M1 := hide (blk_grown hW1.out hg4 (fun e => by have := G4.out (w.heap.size + 1) ((ob A j c).symm.trans e.symm); omega))
         have M2 : Hid (∃ z0 z1 z2 z3, Blk w4 w.heap.size 64 #[z0, z1, z2, z3]) := (by
           obtain ⟨z0, z1, z2, z3, hz⟩ := hW2.out
           exact hide ⟨z0, z1, z2, z3, blk_grown hz hg4 (fun e => by have := G4.out w.heap.size ((ob A j c).symm.trans e.symm); omega)⟩)
         have Mb := hide (bel_grow hWb.out hg4 (fun k hk => by have := G4.out k ((ob A j c).symm.trans hk); omega) hWb.out.size)
         have Mo := hide hown4
         have Mg : Hid (w.heap.size + 2 ≤ g4) := hide (by
           rcases hat4 with h | h
           · exact G4.out _ ((ob A j c).symm.trans h)
           · rw [h]; simp; have := G1.out.lt; omega)
         have m0 := M1.out.cell 0
         have m1 := M1.out.frozen 0
         clear hown4 hg4 hat4 hlt4))
      all_goals
        clear S0 S1 S2 e1 m0 m1
        go_wp2_with fail
        go_roundw
        case rel =>
          refine ⟨j + 1, some ⟨g4, 0, none⟩, c4, by omega, by go_num, M1.out.set 0 _, ?_, ?_, (fun g hg => ?_), Mb.out.setCell (p := ⟨w.heap.size + 1, 0, none⟩) (Nat.le_succ _) _⟩
          · obtain ⟨z0, z1, z2, z3, hz⟩ := M2.out
            exact ⟨z0, z1, z2, z3, hz.far (p := ⟨w.heap.size + 1, 0, none⟩) (show w.heap.size ≠ w.heap.size + 1 by omega) _⟩
          · have := own_kp Mo.out ((Kp.refl [w.heap.size + 1] w4).set (p := ⟨w.heap.size + 1, 0, none⟩) (.inl (by simp)) (.slice (some ⟨g4, 0, none⟩) (j + 1) c4)) (fun g hg => by
              simp only [Value.ownBlock, Option.some.injEq] at hg
              have := Mg.out
              simp; omega)
            rw [show strC (List.replicate (j + 1) zl) = strC (List.replicate j zl) ++ [.string (txt zl)] by rw [List.replicate_succ']; simp [strC]]
            exact this
          · simp only [Value.ownBlock, Option.some.injEq] at hg
            have := Mg.out
            omega
        case measure => simp [intOf]; omega
    · have hjn : j = n := by omega
      obtain ⟨c0, c1, c2, c3, f0, f1, f2, f3⟩ := blk4 G1.out
      obtain ⟨z0, z1, z2, z3, hz⟩ := G2.out
      obtain ⟨d0, d1, d2, d3, e0, e1, e2, e3⟩ := blk4 hz
      have Hjn := hide hjn
      clear hjn hz
      go_wp2_with fail
      refine bodyPost_ret (v := .tuple #[.agg #[.slice A j c, .slice none 0 0, .int .i64 0, .int .i64 (-1)], .int .i64 0]) (by simp [results, Try.results25, go_sem, d0, d1, d2, d3]) rfl ?_
      have hbel := bel4 G5.out (Nat.le_refl w.heap.size) (.slice A j c) (.slice none 0 0) (.int .i64 0) (.int .i64 (-1))
      have hk : Kp [w.heap.size] wr _ := (((((Kp.refl _ wr).set (p := ⟨w.heap.size, 0, none⟩) (.inl (by simp)) (.slice A j c)).set (p := ⟨w.heap.size, 1, none⟩) (.inl (by simp)) (.slice none 0 0)).set (p := ⟨w.heap.size, 2, none⟩) (.inl (by simp)) (.int .i64 0)).set (p := ⟨w.heap.size, 3, none⟩) (.inl (by simp)) (.int .i64 (-1)))
      have hlen : (freshD n).sure.length = n := by simp [freshD]
      refine ⟨A, c, ?_, ⟨?_, World.ownsRow_nil _ _ _ _, fresh_ok n h2⟩, hbel⟩
      · unfold refV
        rw [hlen, Hjn.out]
        rfl
      · rw [hlen]
        have := own_kp G3.out hk (fun g hg => by
          have := G4.out g ((ob A j c).symm.trans hg)
          simp; omega)
        rw [hzl.out] at this
        have e := Hjn.out
        subst e
        exact this
end Go.Proofs.Ytfaingklglelnaa

/- The reference's Crash in plain lists: sectors side by side. -/
namespace Go.Proofs.Ytfaingklglelnaa
open Go.RowKit

theorem txt_app (a b : List UInt8) : txt a ++ txt b = txt (a ++ b) := by
  unfold txt
  apply ByteArray.ext
  simp
theorem txt_cut (a : List UInt8) (m lo hi : Nat) (hlo : lo = m * 16) (hhi : hi = m * 16 + 16) : (txt a).extract lo hi = txt (sect a m) := by
  subst hlo hhi
  unfold txt sect
  apply ByteArray.ext
  simp [ByteArray.extract, ByteArray.copySlice, List.take_drop]
theorem and_one (a : Int) : bits BinOp.and IntKind.i64 a 1 = a % 2 := by
  show IntKind.i64.wrap ((BitVec.ofInt 64 a &&& BitVec.ofInt 64 1).toNat : Int) = _
  have h1 : (BitVec.ofInt 64 a &&& BitVec.ofInt 64 1).toNat = (BitVec.ofInt 64 a).toNat % 2 := by
    rw [BitVec.toNat_and]
    show (BitVec.ofInt 64 a).toNat &&& 1 = _
    rw [Nat.and_one_is_mod]
  have h2 : ((BitVec.ofInt 64 a).toNat : Int) = a % 18446744073709551616 := by
    rw [BitVec.toNat_ofInt]
    omega
  rw [h1, IntKind.wrap_i64]
  omega
theorem bit_rem (a : Int) : (bits BinOp.and IntKind.i64 a 1 == 1) = !(a.tmod 2 == 0) := by
  rw [and_one]
  have h : a.tmod 2 = 0 ↔ a % 2 = 0 := by
    rw [← Int.dvd_iff_tmod_eq_zero, Int.dvd_iff_emod_eq_zero]
  by_cases h0 : a % 2 = 0
  · rw [h0, h.2 h0]; rfl
  · have h1 : a % 2 = 1 := by omega
    have h2 : ¬ a.tmod 2 = 0 := fun e => h0 (h.1 e)
    rw [h1]
    simp [h2]
end Go.Proofs.Ytfaingklglelnaa

/- The walk over the reference's Crash. -/
namespace Go.Proofs.Ytfaingklglelnaa
open Go.RowKit

theorem str_slice (w : World) (a : List UInt8) (m lo hi : Nat) (ha : a.length = 64) (hm : m < 4) (hlo : lo = m * 16) (hhi : hi = m * 16 + 16) :
    (Instr.slice 9 (.string (txt a)) (some (.int .i64 (lo : Int))) (some (.int .i64 (hi : Int))) none).run Try.prog w = .ok (.string (txt (sect a m))) w := by
  have hsz : (txt a).size = 64 := by simp [txt, ByteArray.size, ha]
  have hc := txt_cut a m lo hi hlo hhi
  simp [Instr.slice, run_underlying Try.underlying9, Instr.sliceBounds, Instr.sliceBound, asIntOf, hsz, show lo ≤ hi by omega, show hi ≤ 64 by omega, hc]
theorem txt_size (a : List UInt8) : (txt a).size = a.length := by simp [txt, ByteArray.size]
theorem wrC1 (m lo : Nat) (hm : m < 4) (h : lo = m * 16) : IntKind.i64.wrap (16 * (m : Int)) = (lo : Int) := by
  subst h
  match m, hm with
  | 0, _ => rfl
  | 1, _ => rfl
  | 2, _ => rfl
  | 3, _ => rfl
theorem wrC2 (lo hi m : Nat) (hm : m < 4) (h : lo = m * 16) (h2 : hi = m * 16 + 16) : IntKind.i64.wrap ((lo : Int) + 16) = (hi : Int) := by
  subst h h2
  match m, hm with
  | 0, _ => rfl
  | 1, _ => rfl
  | 2, _ => rfl
  | 3, _ => rfl
theorem crashed_ok {D : Dsk} (h : D.Ok) (f : Nat → Nat → Bool) (cap : Nat) (pad : Array Value) : (D.crashed f cap pad).Ok := by
  have hc := crashN_64 (f := f) (n := D.sure.length) ⟨rfl, h.b⟩ (fun x hx => h.q x hx) D.queue.length (Nat.le_refl _)
  exact ⟨hc.2, (fun x hx => by cases hx), (by show (crashN _ _ _ _).length ≤ 4096; rw [hc.1]; exact h.n), ⟨Int.le_refl _, (by show (-1 : Int) ≤ 9223372036854775807; decide)⟩, Nat.zero_le _, Nat.zero_le _⟩

set_option maxHeartbeats 2000000 in
set_option maxRecDepth 100000 in
theorem rcrash_any (w : World) (base : Nat) (As : Option Addr) (cs : Nat) (Aq : Option Addr) (cq : Nat) (D : Dsk) (h : RefM w base As cs Aq cq D) (hbs : base ≤ w.heap.size) (B : Nat) (A : Option Addr) (n c : Nat) (keep : List Bool) (hkp : Sl w B A n (keep.map Value.bool)) (hB : B ≤ w.heap.size) (hkn : n ≤ 9223372036854775807) (torn sectors : Int) (cap : Nat) (pad : Array Value) :
    Calls Try.prog 30 #[.agg (refV As cs Aq cq D), .slice A n c, .int .i64 torn, .int .i64 sectors] w fun e w' => ∃ A' c', e = .returned (.agg (refV A' c' none 0 (D.crashed (crashF keep torn sectors) cap pad))) ∧ RefM w' base A' c' none 0 (D.crashed (crashF keep torn sectors) cap pad) ∧ Below w.heap.size w w' ∧ (∀ g, (Value.slice A' 0 0).ownBlock = some g → w.heap.size ≤ g) := by
  have hok := hide (crashed_ok h.ok (crashF keep torn sectors) cap pad)
  have hn := h.ok.n
  have hqn := h.ok.qn
  have hq := hide h.ok.q
  have h64 : Hid (All64 D.sure.length D.sure) := hide ⟨rfl, h.ok.b⟩
  have H := hide h
  have HK := hide hkp
  clear h hkp
  unfold refV
  have K1 := hide ((Blk.new w 64 #[.slice As D.sure.length cs, .slice Aq D.queue.length cq, .int .i64 (D.steps : Int), .int .i64 D.left]).alloc (.cells #[.slice none 0 0, .slice none 0 0, .int .i64 0, .int .i64 0] 64))
  have K2 := hide (Blk.new (w.alloc (.cells #[.slice As D.sure.length cs, .slice Aq D.queue.length cq, .int .i64 (D.steps : Int), .int .i64 D.left] 64)) 64 #[.slice none 0 0, .slice none 0 0, .int .i64 0, .int .i64 0])
  have Kb := hide (((Below.refl w.heap.size w).alloc (Nat.le_refl _) (.cells #[.slice As D.sure.length cs, .slice Aq D.queue.length cq, .int .i64 (D.steps : Int), .int .i64 D.left] 64)).alloc (by simp) (.cells #[.slice none 0 0, .slice none 0 0, .int .i64 0, .int .i64 0] 64))
  rw [World.size_alloc] at K2
  go_enter Try.func30, Try.ntmps30
  go_upto_region 1 with fail
  generalize (w.alloc (.cells #[.slice As D.sure.length cs, .slice Aq D.queue.length cq, .int .i64 (D.steps : Int), .int .i64 D.left] 64)).alloc (.cells #[.slice none 0 0, .slice none 0 0, .int .i64 0, .int .i64 0] 64) = w2 at *
  have hs2 : Hid (w.heap.size + 2 ≤ w2.heap.size) := hide (by have := K2.out.lt; omega)
  have c0 : (w2.alloc (.cells #[] 9)).cell? ⟨w.heap.size, 0, none⟩ = some (.slice As D.sure.length cs) := (K1.out.alloc _).cell 0
  go_wp2_with (
    at_builtin
    obtain ⟨ie, hie, z1, z2, z3⟩ := str_info
    refine wpList_appk _ rfl (.tmp 15) (.tmp 17) _ rfl Try.underlying61 hie z1 z2 z3 rfl (by decide) (by decide) w.heap.size (.slice (some ⟨w2.heap.size, 0, none⟩) 0 0) 0 [] rfl (own_made Kb.out.size) base As D.sure.length cs (strC D.sure) rfl
      (own_kp (H.out.below Kb.out).s (Kp.of_below (gs := []) ((Below.refl _ _).alloc (Nat.le_refl _) _)) (by simp)) (strC_one _) (by omega) (Nat.le_trans Kb.out.size (by simp)) ?_
    intro A3 cA w3 hown3 hg3 hat3
    simp only [Nat.zero_add, List.nil_append] at hown3 hat3
    have L1 := hide (blk_grown (K1.out.alloc (.cells #[] 9)) hg3 (by simp [Value.ownBlock]; have := K1.out.lt; omega))
    have L2 := hide (blk_grown (K2.out.alloc (.cells #[] 9)) hg3 (by simp [Value.ownBlock]; have := K2.out.lt; omega))
    have Lb := hide (bel_grow (Kb.out.alloc Kb.out.size (.cells #[] 9)) hg3 (fun k hk => by simp only [Value.ownBlock, Option.some.injEq] at hk; have := hs2.out; omega) (Nat.le_trans Kb.out.size (by simp)))
    have Ho := hide hown3
    have Ha := hide (show ∀ g, (Value.slice A3 D.sure.length cA).ownBlock = some g → w.heap.size + 2 ≤ g ∧ g < w3.heap.size from fun g hg => ⟨by
      have := hs2.out
      rcases hat3 with h | h
      · rw [hg] at h; simp [Value.ownBlock] at h; omega
      · rw [hg] at h; simp at h; omega, (hown3.lt g hg).2⟩)
    have hs3 : w.heap.size + 2 ≤ w3.heap.size := by have := L2.out.lt; omega
    clear hown3 hg3 hat3 K1 K2
    have c1 : (w3.alloc (.cells #[.slice A3 D.sure.length cA, .slice none 0 0, .int .i64 0, .int .i64 (-1)] 64)).cell? ⟨w.heap.size, 1, none⟩ = some (.slice Aq D.queue.length cq) := (L1.out.alloc _).cell 1)
  have N1 := hide (L1.out.alloc (.cells #[.slice A3 D.sure.length cA, .slice none 0 0, .int .i64 0, .int .i64 (-1)] 64))
  have N2 : Hid (∃ z0 z1 z2 z3, Blk (w3.alloc (.cells #[.slice A3 D.sure.length cA, .slice none 0 0, .int .i64 0, .int .i64 (-1)] 64)) (w.heap.size + 1) 64 #[z0, z1, z2, z3]) := hide ⟨_, _, _, _, L2.out.alloc _⟩
  have N3 := hide (Blk.new w3 64 #[.slice A3 D.sure.length cA, .slice none 0 0, .int .i64 0, .int .i64 (-1)])
  have Nb := hide (Lb.out.alloc Lb.out.size (.cells #[.slice A3 D.sure.length cA, .slice none 0 0, .int .i64 0, .int .i64 (-1)] 64))
  have No := hide (own_kp Ho.out (Kp.of_below (gs := []) ((Below.refl _ _).alloc (Nat.le_refl _) (.cells #[.slice A3 D.sure.length cA, .slice none 0 0, .int .i64 0, .int .i64 (-1)] 64))) (by simp))
  have hs3' := hide hs3
  clear L1 L2 Lb Ho c0 c1 hs3
  generalize w3.alloc (.cells #[.slice A3 D.sure.length cA, .slice none 0 0, .int .i64 0, .int .i64 (-1)] 64) = w4 at *
  generalize w3.heap.size = b9 at *
  go_loopw [23] (fun x wr => ∃ j : Nat, j ≤ D.queue.length ∧ x = .int .i64 (j : Int) ∧ Blk wr w.heap.size 64 #[.slice As D.sure.length cs, .slice Aq D.queue.length cq, .int .i64 (D.steps : Int), .int .i64 D.left] ∧ (∃ z0 z1 z2 z3, Blk wr (w.heap.size + 1) 64 #[z0, z1, z2, z3]) ∧ Blk wr b9 64 #[.slice A3 D.sure.length cA, .slice none 0 0, .int .i64 0, .int .i64 (-1)] ∧
    wr.ownsRow w.heap.size 9 1 (.slice A3 D.sure.length cA) D.sure.length (strC (crashN (crashF keep torn sectors) D.queue j D.sure)) ∧ Below w.heap.size w wr) (fun x _ => D.queue.length - (intOf x).toNat)
  case atStart => exact ⟨0, Nat.zero_le _, rfl, N1.out, N2.out, N3.out, No.out, Nb.out⟩
  case round =>
    obtain ⟨j, hj, rfl, g1, g2, g3, g4, g5⟩ := hrel
    have G1 := hide g1
    have G2 := hide g2
    have G3 := hide g3
    have G4 := hide g4
    have G5 := hide g5
    clear g1 g2 g3 g4 g5 N1 N2 N3 No Nb
    by_cases hlt : j < D.queue.length
    · obtain ⟨x, hx⟩ : ∃ x, D.queue[j]? = some x := ⟨_, List.getElem?_eq_getElem hlt⟩
      obtain ⟨hxl, hxs⟩ := hq.out x (List.mem_of_getElem? hx)
      obtain ⟨gq, hAq, q1, q2⟩ := (H.out.below G5.out).atQ j x hx
      have hN := crashN_64 (f := crashF keep torn sectors) h64.out hq.out j hj
      have hst := hide (crashN_step (crashF keep torn sectors) D.queue j D.sure x hx)
      have hfour := hide (crash1_four (crashF keep torn sectors j) x _ D.sure.length hN hxl hxs)
      have hcl : ((crashN (crashF keep torn sectors) D.queue j D.sure).getD x.1 []).length = 64 := by
        have hl : x.1 < (crashN (crashF keep torn sectors) D.queue j D.sure).length := by rw [hN.1]; exact hxs
        rw [List.getD_eq_getElem?_getD, List.getElem?_eq_getElem hl]
        exact hN.2 _ (List.getElem_mem hl)
      have hcg : (strC (crashN (crashF keep torn sectors) D.queue j D.sure))[x.1]? = some (.string (txt ((crashN (crashF keep torn sectors) D.queue j D.sure).getD x.1 []))) := by
        have hl : x.1 < (crashN (crashF keep torn sectors) D.queue j D.sure).length := by rw [hN.1]; exact hxs
        simp [strC, List.getElem?_map, List.getD_eq_getElem?_getD, hl]
      have G4a := hide (own_kp G4.out (Kp.of_below (gs := []) ((Below.refl _ _).alloc (Nat.le_refl _) (.cells #[.int .i64 (x.1 : Int), .string (txt x.2)] 104))) (by simp))
      obtain ⟨g, hA3, s1⟩ := own_cell G4a.out x.1 _ hcg
      obtain ⟨g', u, hA3', hg1, hg2, -, s2, s3⟩ := own_set G4a.out hxs
      have hgg : g' = g := by rw [hA3] at hA3'; injection hA3' with e; injection e with e; exact e.symm
      subst hgg
      have hgb := Ha.out g' (by rw [hA3]; rfl)
      have P1 := hide (G1.out.alloc (.cells #[.int .i64 (x.1 : Int), .string (txt x.2)] 104))
      have P3 := hide (G3.out.alloc (.cells #[.int .i64 (x.1 : Int), .string (txt x.2)] 104))
      have P6 := hide (Blk.new wr 104 #[.int .i64 (x.1 : Int), .string (txt x.2)])
      have P5 := hide (G5.out.alloc G5.out.size (.cells #[.int .i64 (x.1 : Int), .string (txt x.2)] 104))
      have P2 : Hid (∃ z0 z1 z2 z3, Blk (wr.alloc (.cells #[.int .i64 (x.1 : Int), .string (txt x.2)] 104)) (w.heap.size + 1) 64 #[z0, z1, z2, z3]) := by
        obtain ⟨z0, z1, z2, z3, hz⟩ := G2.out
        exact hide ⟨z0, z1, z2, z3, hz.alloc _⟩
      have hs3 := hide s3
      have S1 : wr.cell? ⟨w.heap.size, 1, none⟩ = some (.slice Aq D.queue.length cq) := G1.out.cell 1
      have hb9 : Hid (b9 < wr.heap.size) := hide G3.out.lt
      subst hAq
      clear s3 hN hcg hx G1 G2 G3 G4 G5
      generalize hcur : (crashN (crashF keep torn sectors) D.queue j D.sure).getD x.1 [] = cur at *
      replace hcur := hide hcur
      go_upto_region 6 with fail
      have hkb := bool_at (HK.out.below (P5.out.mono hB)) j
      clear S1 q1 q2
      generalize hw5 : wr.alloc (.cells #[.int .i64 (x.1 : Int), .string (txt x.2)] 104) = w5 at *
      replace hw5 := hide hw5
      have t0 : w5.cell? ⟨b9, 0, none⟩ = some (.slice A3 D.sure.length cA) := P3.out.cell 0
      have t1 : w5.cell? ⟨wr.heap.size, 0, none⟩ = some (.int .i64 (x.1 : Int)) := P6.out.cell 0
      have t2 : w5.cell? ⟨wr.heap.size, 1, none⟩ = some (.string (txt x.2)) := P6.out.cell 1
      subst hA3
      generalize wr.heap.size = b11 at *
      rcases hkb with ⟨hjm, ad, hA', hcu⟩ | ⟨hjm, hb⟩
      · subst hA'
        generalize hkb : keep.getD j false = kb at *
        replace hkb := hide hkb
        go_wp2_with fail
        go_loop [12, 13] (fun p q => ∃ m : Nat, m ≤ 4 ∧ p = .string (txt (mix (crashF keep torn sectors j) cur x.2 m)) ∧ q = .int .i64 (m : Int)) (fun _ q => 4 - (intOf q).toNat)
        case atStart => exact ⟨0, Nat.zero_le _, rfl, rfl⟩
        case round =>
          obtain ⟨m, hm4, rfl, rfl⟩ := hrel
          by_cases hm : m < 4
          · obtain ⟨lo, hlo⟩ : ∃ lo, lo = m * 16 := ⟨_, rfl⟩
            obtain ⟨hi, hhi⟩ : ∃ hi, hi = m * 16 + 16 := ⟨_, rfl⟩
            have wa := wrC1 m lo hm hlo
            have wb := wrC2 lo hi m hm hlo hhi
            have v1 := fun W => str_slice W cur m lo hi hcl hm hlo hhi
            have v2 := fun W => str_slice W x.2 m lo hi hxl hm hlo hhi
            have hcf : crashF keep torn sectors j m = (kb || ((j : Int) == torn && bitS sectors m)) := by unfold crashF; rw [hkb.out]
            have hmx : txt (mix (crashF keep torn sectors j) cur x.2 (m + 1)) = txt (mix (crashF keep torn sectors j) cur x.2 m ++ (if crashF keep torn sectors j m then sect x.2 m else sect cur m)) := rfl
            have y1 : (txt (mix (crashF keep torn sectors j) cur x.2 m)).size = m * 16 := by rw [txt_size, mix_len _ _ _ hcl hxl m hm4]
            have y2 : (txt (sect x.2 m)).size = 16 := by rw [txt_size, sect_len x.2 m hxl hm]
            have y3 : (txt (sect cur m)).size = 16 := by rw [txt_size, sect_len cur m hcl hm]
            clear hlo hhi
            generalize mix (crashF keep torn sectors j) cur x.2 m = mx at *
            cases kb
            · by_cases ht : (j : Int) = torn
              · subst ht
                rw [beq_self_eq_true, Bool.false_or, Bool.true_and] at hcf
                by_cases hb : bitS sectors m = true
                · rw [hcf, hb, if_pos rfl, ← txt_app] at hmx
                  rw [bitS, bit_rem] at hb
                  replace hmx := hide hmx
                  clear hcf
                  have hb' : ¬ (sectors / 2 ^ m).tmod 2 = 0 := by simpa using hb
                  clear hb
                  go_wp2_with fail
                  go_round
                  case rel => exact ⟨m + 1, by omega, by rw [hmx.out], by go_num⟩
                  case measure => simp [intOf]; omega
                · rw [hcf, Bool.eq_false_iff.2 hb, if_neg (by decide), ← txt_app] at hmx
                  rw [bitS, bit_rem] at hb
                  replace hmx := hide hmx
                  clear hcf
                  have hb' : (sectors / 2 ^ m).tmod 2 = 0 := by simpa using hb
                  clear hb
                  go_wp2_with fail
                  go_round
                  case rel => exact ⟨m + 1, by omega, by rw [hmx.out], by go_num⟩
                  case measure => simp [intOf]; omega
              · rw [Bool.false_or, beq_eq_false_iff_ne.2 ht, Bool.false_and] at hcf
                rw [hcf, if_neg (by decide), ← txt_app] at hmx
                replace hmx := hide hmx
                clear hcf
                go_wp2_with fail
                go_round
                case rel => exact ⟨m + 1, by omega, by rw [hmx.out], by go_num⟩
                case measure => simp [intOf]; omega
            · rw [Bool.true_or] at hcf
              rw [hcf, if_pos rfl, ← txt_app] at hmx
              replace hmx := hide hmx
              clear hcf
              go_wp2_with fail
              go_round
              case rel => exact ⟨m + 1, by omega, by rw [hmx.out], by go_num⟩
              case measure => simp [intOf]; omega
          · have hm4' : m = 4 := by omega
            subst hm4'
            have hfin : Hid (strC (crashN (crashF keep torn sectors) D.queue (j + 1) D.sure) = (strC (crashN (crashF keep torn sectors) D.queue j D.sure)).set x.1 (.string (txt (mix (crashF keep torn sectors j) cur x.2 4)))) := by
              rw [hst.out, hfour.out]
              simp [strC, List.map_set, Hid]
            generalize mix (crashF keep torn sectors j) cur x.2 4 = mx at *
            have Q4 := hide (hs3.out (.string (txt mx)))
            have Q1 := hide (P1.out.far (p := ⟨g', x.1, none⟩) (show w.heap.size ≠ g' by omega) (.string (txt mx)))
            have Q3 := hide (P3.out.far (p := ⟨g', x.1, none⟩) (show b9 ≠ g' by omega) (.string (txt mx)))
            have Q2 : Hid (∃ z0 z1 z2 z3, Blk (w5.setCell ⟨g', x.1, none⟩ (.string (txt mx))) (w.heap.size + 1) 64 #[z0, z1, z2, z3]) := by
              obtain ⟨z0, z1, z2, z3, hz⟩ := P2.out
              exact hide ⟨z0, z1, z2, z3, hz.far (p := ⟨g', x.1, none⟩) (show w.heap.size + 1 ≠ g' by omega) _⟩
            have Q5 := hide (P5.out.setCell (p := ⟨g', x.1, none⟩) (show w.heap.size ≤ g' by omega) (.string (txt mx)))
            go_wp2_with fail
            go_roundw
            case rel => exact ⟨j + 1, by omega, by go_num, Q1.out, Q2.out, Q3.out, by rw [hfin.out]; exact Q4.out, Q5.out⟩
            case measure => simp [intOf]; omega
      · have hkb := hide hb
        clear hb
        go_wp2_with fail
        go_loop [12, 13] (fun p q => ∃ m : Nat, m ≤ 4 ∧ p = .string (txt (mix (crashF keep torn sectors j) cur x.2 m)) ∧ q = .int .i64 (m : Int)) (fun _ q => 4 - (intOf q).toNat)
        case atStart => exact ⟨0, Nat.zero_le _, rfl, rfl⟩
        case round =>
          obtain ⟨m, hm4, rfl, rfl⟩ := hrel
          by_cases hm : m < 4
          · obtain ⟨lo, hlo⟩ : ∃ lo, lo = m * 16 := ⟨_, rfl⟩
            obtain ⟨hi, hhi⟩ : ∃ hi, hi = m * 16 + 16 := ⟨_, rfl⟩
            have wa := wrC1 m lo hm hlo
            have wb := wrC2 lo hi m hm hlo hhi
            have v1 := fun W => str_slice W cur m lo hi hcl hm hlo hhi
            have v2 := fun W => str_slice W x.2 m lo hi hxl hm hlo hhi
            have hcf : crashF keep torn sectors j m = (false || ((j : Int) == torn && bitS sectors m)) := by unfold crashF; rw [hkb.out]
            have hmx : txt (mix (crashF keep torn sectors j) cur x.2 (m + 1)) = txt (mix (crashF keep torn sectors j) cur x.2 m ++ (if crashF keep torn sectors j m then sect x.2 m else sect cur m)) := rfl
            have y1 : (txt (mix (crashF keep torn sectors j) cur x.2 m)).size = m * 16 := by rw [txt_size, mix_len _ _ _ hcl hxl m hm4]
            have y2 : (txt (sect x.2 m)).size = 16 := by rw [txt_size, sect_len x.2 m hxl hm]
            have y3 : (txt (sect cur m)).size = 16 := by rw [txt_size, sect_len cur m hcl hm]
            clear hlo hhi
            generalize mix (crashF keep torn sectors j) cur x.2 m = mx at *
            by_cases ht : (j : Int) = torn
            · subst ht
              rw [beq_self_eq_true, Bool.false_or, Bool.true_and] at hcf
              by_cases hb : bitS sectors m = true
              · rw [hcf, hb, if_pos rfl, ← txt_app] at hmx
                rw [bitS, bit_rem] at hb
                replace hmx := hide hmx
                clear hcf
                have hb' : ¬ (sectors / 2 ^ m).tmod 2 = 0 := by simpa using hb
                clear hb
                go_wp2_with fail
                go_round
                case rel => exact ⟨m + 1, by omega, by rw [hmx.out], by go_num⟩
                case measure => simp [intOf]; omega
              · rw [hcf, Bool.eq_false_iff.2 hb, if_neg (by decide), ← txt_app] at hmx
                rw [bitS, bit_rem] at hb
                replace hmx := hide hmx
                clear hcf
                have hb' : (sectors / 2 ^ m).tmod 2 = 0 := by simpa using hb
                clear hb
                go_wp2_with fail
                go_round
                case rel => exact ⟨m + 1, by omega, by rw [hmx.out], by go_num⟩
                case measure => simp [intOf]; omega
            · rw [Bool.false_or, beq_eq_false_iff_ne.2 ht, Bool.false_and] at hcf
              rw [hcf, if_neg (by decide), ← txt_app] at hmx
              replace hmx := hide hmx
              clear hcf
              go_wp2_with fail
              go_round
              case rel => exact ⟨m + 1, by omega, by rw [hmx.out], by go_num⟩
              case measure => simp [intOf]; omega
          · have hm4' : m = 4 := by omega
            subst hm4'
            have hfin : Hid (strC (crashN (crashF keep torn sectors) D.queue (j + 1) D.sure) = (strC (crashN (crashF keep torn sectors) D.queue j D.sure)).set x.1 (.string (txt (mix (crashF keep torn sectors j) cur x.2 4)))) := by
              rw [hst.out, hfour.out]
              simp [strC, List.map_set, Hid]
            generalize mix (crashF keep torn sectors j) cur x.2 4 = mx at *
            have Q4 := hide (hs3.out (.string (txt mx)))
            have Q1 := hide (P1.out.far (p := ⟨g', x.1, none⟩) (show w.heap.size ≠ g' by omega) (.string (txt mx)))
            have Q3 := hide (P3.out.far (p := ⟨g', x.1, none⟩) (show b9 ≠ g' by omega) (.string (txt mx)))
            have Q2 : Hid (∃ z0 z1 z2 z3, Blk (w5.setCell ⟨g', x.1, none⟩ (.string (txt mx))) (w.heap.size + 1) 64 #[z0, z1, z2, z3]) := by
              obtain ⟨z0, z1, z2, z3, hz⟩ := P2.out
              exact hide ⟨z0, z1, z2, z3, hz.far (p := ⟨g', x.1, none⟩) (show w.heap.size + 1 ≠ g' by omega) _⟩
            have Q5 := hide (P5.out.setCell (p := ⟨g', x.1, none⟩) (show w.heap.size ≤ g' by omega) (.string (txt mx)))
            go_wp2_with fail
            go_roundw
            case rel => exact ⟨j + 1, by omega, by go_num, Q1.out, Q2.out, Q3.out, by rw [hfin.out]; exact Q4.out, Q5.out⟩
            case measure => simp [intOf]; omega
    · have hjn : j = D.queue.length := by omega
      have HL := hide (show wr.ownsRow w.heap.size 9 1 (.slice A3 D.sure.length cA) D.sure.length (strC (crashN (crashF keep torn sectors) D.queue D.queue.length D.sure)) from hjn ▸ G4.out)
      obtain ⟨c0, c1, c2, c3, f0, f1, f2, f3⟩ := blk4 G3.out
      obtain ⟨z0, z1, z2, z3, hz⟩ := G2.out
      obtain ⟨d0, d1, d2, d3, e0, e1, e2, e3⟩ := blk4 hz
      have hlen : Hid ((D.crashed (crashF keep torn sectors) cap pad).sure.length = D.sure.length) := hide (crashN_64 (f := crashF keep torn sectors) h64.out hq.out D.queue.length (Nat.le_refl _)).1
      clear hjn hz
      go_wp2_with fail
      refine bodyPost_ret (v := .agg #[.slice A3 D.sure.length cA, .slice none 0 0, .int .i64 0, .int .i64 (-1)]) (by simp [results, Try.results30, go_sem, d0, d1, d2, d3]) rfl ?_
      have hbel := bel4 G5.out (Nat.le_succ w.heap.size) (.slice A3 D.sure.length cA) (.slice none 0 0) (.int .i64 0) (.int .i64 (-1))
      have hk : Kp [w.heap.size + 1] wr _ := (((((Kp.refl _ wr).set (p := ⟨w.heap.size + 1, 0, none⟩) (.inl (by simp)) (.slice A3 D.sure.length cA)).set (p := ⟨w.heap.size + 1, 1, none⟩) (.inl (by simp)) (.slice none 0 0)).set (p := ⟨w.heap.size + 1, 2, none⟩) (.inl (by simp)) (.int .i64 0)).set (p := ⟨w.heap.size + 1, 3, none⟩) (.inl (by simp)) (.int .i64 (-1)))
      refine ⟨A3, cA, ?_, ⟨?_, World.ownsRow_nil _ _ _ _, hok.out⟩, hbel, fun g hg => ?_⟩
      · rw [hlen.out]
        rfl
      · rw [hlen.out]
        exact own_base65 (own_kp HL.out hk (fun g hg => by
          have := (Ha.out g hg).1
          simp; omega)) hbs
      · have := (Ha.out g (by rw [← hg]; exact ob _ _ _)).1
        omega
end Go.Proofs.Ytfaingklglelnaa
