/- The walk over point.Decode. -/
import Derived.Test.YtfaingklglelnaaPt4
import Derived.StillTailTactics
namespace Go.Proofs.Ytfaingklglelnaa
open Go.RowKit
attribute [local go_sem ↓] Go.wp_at_zero Go.wp_at_succ

theorem two_any (p : Nat) (ad : Addr) (c B : Nat) (l : List UInt8) (j : Nat) (w : World) (hp : w.cell? ⟨p, 0, none⟩ = some (.slice (some ad) 64 c)) (h : By w B (some ad) 64 l) (hj : j ≤ 62) :
    Calls Try.prog 37 #[.int .i64 (j : Int), .pointer (some ⟨p, 0, none⟩)] w fun e w' => e = .returned (.int .i64 (fld l j 2 : Nat)) ∧ ∃ k, w' = w.drewN k := by
  have hl := h.length
  obtain ⟨l0, _, e0, b0⟩ := By.get h (k := j) (by omega)
  obtain ⟨l1, _, e1, b1⟩ := By.get h (k := j + 1) (by omega)
  cases e0; cases e1
  have hf := hide (fld2_eq (l := l) (i := j) (by omega))
  have y0 := l[j].toNat_lt
  have y1 := l[j + 1].toNat_lt
  have hor := or_num l[j].toNat l[j + 1].toNat 1 (by omega) y1 (by omega)
  generalize l[j].toNat = x0 at *
  generalize l[j + 1].toNat = x1 at *
  obtain ⟨j1, hj1⟩ : ∃ j1, j1 = j + 1 := ⟨_, rfl⟩
  have hwj : IntKind.i64.wrap ((j : Int) + 1) = (j1 : Int) := by rw [IntKind.wrap_i64]; omega
  rw [← hj1] at b1
  have hj64 : (j : Int) < 64 := by omega
  have hj164 : (j1 : Int) < 64 := by omega
  have hx0 : IntKind.i64.wrap (x0 : Int) = x0 := by rw [IntKind.wrap_i64]; omega
  have hx1 : IntKind.i64.wrap (x1 : Int) = x1 := by rw [IntKind.wrap_i64]; omega
  have hsh : RowKit.wrap64 ((x1 : Int) * 256) = (x1 : Int) * 256 := IntWalk.wrap64_in _ (by omega)
  have hor2 : bits .or .i64 (x0 : Int) ((x1 : Int) * 256) = ((x0 + 256 * x1 : Nat) : Int) := by
    rw [show ((x1 : Int) * 256) = (x1 : Int) * 2 ^ (8 * 1) by rfl, hor]
    rw [show x1 * 256 ^ 1 = 256 * x1 by omega]
  clear hor hj1 hl h
  go_enter Try.func37, Try.ntmps37
  go_wp2_with fail
  go_quiet (fail)
  go_wp2_with fail
  go_ret
  exact ⟨by rw [hf.out]; simp, _, rfl⟩

/-- The point that a block holds. -/
structure Pt where
  e : Nat
  c : Nat
  n : Nat
  f : Nat
deriving DecidableEq
abbrev Pt.val (p : Pt) : Value := ptV p.e p.c p.n p.f
abbrev Pt.P (p : Pt) : Prop := PtP p.e p.c p.n p.f
abbrev Pt.bytes (p : Pt) : List UInt8 := ptBytes p.e p.c p.n p.f
def ptOf (l : List UInt8) : Pt := ⟨fld l 0 2, fld l 2 2, fld l 5 2, fld l 7 2⟩
def decP (l : List UInt8) : Option Pt := if l.length = 64 ∧ (ptOf l).P ∧ (ptOf l).bytes = l then some (ptOf l) else none
def decV (l : List UInt8) : Value := match decP l with
  | some p => .tuple #[p.val, .int .i64 0]
  | none => .tuple #[ptV 0 0 0 0, .int .i64 100]

theorem ret_dec {K : Ending → World → Prop} {tmps : Array Value} {w : World} {g : Nat} {a b c d : Int} {v : Value} (hp : tmps.getD 2 undef = .pointer (some ⟨g, 0, none⟩)) (hq : tmps.getD 3 undef = v) (hB : Blk w g 23 (ptC a b c d))
    (hK : K (.returned (.tuple #[ptV a b c d, v])) w) : bodyPost Try.prog Try.f14 K .ret ⟨tmps, []⟩ w :=
  bodyPost_ret (results_ct rfl tmps w g _ _ (0, 0) _ hp hB Try.underlying23 rfl (by kernel_rfl)) rfl (by rw [hq]; exact hK)

set_option maxHeartbeats 1000000 in
theorem dec_any (A : Option Addr) (n c B : Nat) (l : List UInt8) (w : World) (h : By w B A n l) (hB : B ≤ w.heap.size) (hc : n ≤ c) (hn : n ≤ 9223372036854775807) :
    Calls Try.prog 14 #[.slice A n c] w fun e w' => e = .returned (decV l) ∧ Below w.heap.size w w' := by
  have H := hide h
  have HB := hide hB
  have HL := hide h.length
  clear h hB
  by_cases h64 : n = 64
  · subst h64
    go_enter Try.func14, Try.ntmps14
    go_wp2_with fail
    obtain ⟨l0, ad, rfl, -⟩ := By.get H.out (k := 0) (by decide)
    have K0 := hide ((Blk.new w 24 #[.slice (some ad) 64 c]).alloc (.cells #[.int .i64 0, .int .i64 0, .int .i64 0, .int .i64 0] 23))
    have K1 := Blk.new (w.alloc (.cells #[.slice (some ad) 64 c] 24)) 23 #[.int .i64 0, .int .i64 0, .int .i64 0, .int .i64 0]
    rw [World.size_alloc] at K1
    have K1 := hide K1
    have B1 := hide (((Below.refl w.heap.size w).alloc (Nat.le_refl _) (.cells #[.slice (some ad) 64 c] 24)).alloc (by simp) (.cells #[.int .i64 0, .int .i64 0, .int .i64 0, .int .i64 0] 23))
    generalize (w.alloc (.cells #[.slice (some ad) 64 c] 24)).alloc (.cells #[.int .i64 0, .int .i64 0, .int .i64 0, .int .i64 0] 23) = w1 at *
    obtain ⟨p, hp⟩ : ∃ p, p = w.heap.size := ⟨_, rfl⟩
    have HP := hide hp
    rw [← hp] at K0 K1 ⊢
    clear hp l0
    refine (two_any p ad c B l 0 _ (K0.out.cell 0) (H.out.below (B1.out.mono HB.out)) (by decide)).mono ?_
    rintro e wx ⟨rfl, nq, rfl⟩
    replace K0 := hide (K0.out.drewN nq)
    replace K1 := hide (K1.out.drewN nq)
    replace B1 := hide (bel_dN B1.out nq)
    generalize w1.drewN nq = w2 at *
    go_wp2_with fail
    refine (two_any p ad c B l 2 _ (K0.out.cell 0) (H.out.below (B1.out.mono HB.out)) (by decide)).mono ?_
    rintro e wx ⟨rfl, nq, rfl⟩
    replace K0 := hide (K0.out.drewN nq)
    replace K1 := hide (K1.out.drewN nq)
    replace B1 := hide (bel_dN B1.out nq)
    generalize w2.drewN nq = w3 at *
    go_wp2_with fail
    refine (two_any p ad c B l 5 _ (K0.out.cell 0) (H.out.below (B1.out.mono HB.out)) (by decide)).mono ?_
    rintro e wx ⟨rfl, nq, rfl⟩
    replace K0 := hide (K0.out.drewN nq)
    replace K1 := hide (K1.out.drewN nq)
    replace B1 := hide (bel_dN B1.out nq)
    generalize w3.drewN nq = w4 at *
    go_wp2_with fail
    refine (two_any p ad c B l 7 _ (K0.out.cell 0) (H.out.below (B1.out.mono HB.out)) (by decide)).mono ?_
    rintro e wx ⟨rfl, nq, rfl⟩
    replace K0 := hide (K0.out.drewN nq)
    replace K1 := hide (K1.out.drewN nq)
    replace B1 := hide (bel_dN B1.out nq)
    generalize w4.drewN nq = w5 at *
    go_wp2_with fail
    have K2 := hide (Blk.new w5 23 (ptC (fld l 0 2) (fld l 2 2) (fld l 5 2) (fld l 7 2)))
    replace K0 := hide (K0.out.alloc (.cells (ptC (fld l 0 2) (fld l 2 2) (fld l 5 2) (fld l 7 2)) 23))
    replace K1 := hide (K1.out.alloc (.cells (ptC (fld l 0 2) (fld l 2 2) (fld l 5 2) (fld l 7 2)) 23))
    replace B1 := hide (B1.out.alloc B1.out.size (.cells (ptC (fld l 0 2) (fld l 2 2) (fld l 5 2) (fld l 7 2)) 23))
    generalize w5.alloc _ = w6 at *
    generalize w5.heap.size = g at *
    by_cases hP : PtP (fld l 0 2) (fld l 2 2) (fld l 5 2) (fld l 7 2)
    · refine (enc_yes _ _ _ _ w6 hP).mono ?_
      rintro e w7 ⟨A2, k2, rfl, hown, hb⟩
      have HO := hide (OwnBy.by hown)
      replace K0 := hide (K0.out.below hb)
      replace K1 := hide (K1.out.below hb)
      replace K2 := hide (K2.out.below hb)
      replace B1 := hide (B1.out.trans (hb.mono B1.out.size))
      clear hown hb
      have c8 := K0.out.cell 0
      simp only [List.getElem?_toArray, List.getElem?_cons_zero] at c8
      go_wp2_with fail
      refine (equal_any A2 (some ad) 64 64 k2 c _ B _ l w7 HO.out (H.out.below (B1.out.mono HB.out)) (by decide)).mono ?_
      rintro e w8 ⟨rfl, nq, rfl⟩
      replace K1 := hide (K1.out.drewN nq)
      replace K2 := hide (K2.out.drewN nq)
      replace B1 := hide (bel_dN B1.out nq)
      clear c8 HO K0
      generalize w7.drewN nq = w8 at *
      obtain ⟨c0, c1, c2, c3⟩ := ptb4 K1.out
      obtain ⟨f0, f1, f2, f3⟩ := blk4f K1.out
      by_cases hQ : ptBytes (fld l 0 2) (fld l 2 2) (fld l 5 2) (fld l 7 2) = l
      · have HF := hide (show decP l = some (ptOf l) from if_pos ⟨HL.out, hP, hQ⟩)
        have hq : eqB (ptBytes (fld l 0 2) (fld l 2 2) (fld l 5 2) (fld l 7 2)) l = true := by rw [hQ, eqB_self]
        rw [hq]
        clear hQ hP hq
        obtain ⟨d0, d1, d2, d3⟩ := ptb4 K2.out
        go_wp2_with fail
        exact ret_dec rfl rfl (put4_blk K1.out) ⟨by unfold decV; rw [HF.out]; rfl, put4_bel B1.out (by rw [HP.out]; omega)⟩
      · have HF := hide (show decP l = none from if_neg (by rintro ⟨-, -, h⟩; exact hQ h))
        rw [eqB_of_ne hQ]
        clear hQ hP
        go_wp2_with fail
        exact ret_dec rfl rfl (put4_blk K1.out) ⟨by unfold decV; rw [HF.out]; rfl, put4_bel B1.out (by rw [HP.out]; omega)⟩
    · refine (enc_no _ _ _ _ w6 hP).mono ?_
      rintro e w7 ⟨rfl, hb⟩
      have HF := hide (show decP l = none from if_neg (by rintro ⟨-, h, -⟩; exact hP h))
      clear hP
      replace K1 := hide (K1.out.below hb)
      replace B1 := hide (B1.out.trans (hb.mono B1.out.size))
      clear hb
      obtain ⟨c0, c1, c2, c3⟩ := ptb4 K1.out
      obtain ⟨f0, f1, f2, f3⟩ := blk4f K1.out
      go_wp2_with fail
      exact ret_dec rfl rfl (put4_blk K1.out) ⟨by unfold decV; rw [HF.out]; rfl, put4_bel B1.out (by rw [HP.out]; omega)⟩
  · have hn' : ((n : Int) != 64) = true := by simp; omega
    have HF := hide (show decP l = none from if_neg (by rintro ⟨h, -⟩; exact h64 (HL.out ▸ h)))
    clear h64
    go_enter Try.func14, Try.ntmps14
    go_wp2_with fail
    have K1 := Blk.new (w.alloc (.cells #[.slice A n c] 24)) 23 #[.int .i64 0, .int .i64 0, .int .i64 0, .int .i64 0]
    rw [World.size_alloc] at K1
    exact ret_dec rfl rfl K1 ⟨by unfold decV; rw [HF.out]; rfl, ((Below.refl w.heap.size w).alloc (Nat.le_refl _) _).alloc (by simp) _⟩
end Go.Proofs.Ytfaingklglelnaa
