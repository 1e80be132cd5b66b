import Derived.Test.YtfaingklglelnaaJn10
import Derived.Test.YtfaingklglelnaaJn11
import Derived.Test.YtfaingklglelnaaJn04
/- The reference's disk and points: Put, Barrier, Arm as one answer; the walks over marlref17.Counts. -/
namespace Go.Proofs.Ytfaingklglelnaa
open Go.RowKit
attribute [local go_sem ↓] Go.wp_at_zero Go.wp_at_succ

/-- The reference's disk behind a call. -/
structure RefN (base : Nat) (w w' : World) (As Aq As' : Option Addr) (cs' : Nat) (Aq' : Option Addr) (cq' : Nat) (E : Dsk) : Prop where
  rm : RefM w' base As' cs' Aq' cq' E
  bel : Below w.heap.size w w'
  fs : ∀ g, (Value.slice As' 0 0).ownBlock = some g → w.heap.size ≤ g ∨ (Value.slice As 0 0).ownBlock = some g
  fq : ∀ g, (Value.slice Aq' 0 0).ownBlock = some g → w.heap.size ≤ g ∨ (Value.slice Aq 0 0).ownBlock = some g
def RefAns (base : Nat) (w : World) (As Aq : Option Addr) (r : Int × Dsk) (e : Ending) (w' : World) : Prop :=
  ∃ As' cs' Aq' cq', e = .returned (.tuple #[.agg (refV As' cs' Aq' cq' r.2), .int .i64 r.1]) ∧ RefN base w w' As Aq As' cs' Aq' cq' r.2
section
variable {base : Nat} {w w1 w2 : World} {As Aq As' Aq' As2 Aq2 : Option Addr} {cs cq cs' cq' cs2 cq2 : Nat} {D E F : Dsk}
theorem RefN.refl (h : RefM w base As cs Aq cq D) : RefN base w w As Aq As cs Aq cq D := ⟨h, Below.refl _ _, fun _ h => .inr h, fun _ h => .inr h⟩
theorem RefN.of (h : RefM w base As cs Aq cq D) (hb : Below w.heap.size w w1) : RefN base w w1 As Aq As cs Aq cq D := ⟨h.below hb, hb, fun _ h => .inr h, fun _ h => .inr h⟩
theorem RefN.trans (h : RefN base w w1 As Aq As' cs' Aq' cq' E) (k : RefN base w1 w2 As' Aq' As2 cs2 Aq2 cq2 F) : RefN base w w2 As Aq As2 cs2 Aq2 cq2 F :=
  ⟨k.rm, h.bel.trans (k.bel.mono h.bel.size), fun g hg => (k.fs g hg).elim (fun e => .inl (Nat.le_trans h.bel.size e)) (h.fs g), fun g hg => (k.fq g hg).elim (fun e => .inl (Nat.le_trans h.bel.size e)) (h.fq g)⟩
theorem RefN.more (h : RefN base w w1 As Aq As' cs' Aq' cq' E) (hb : Below w1.heap.size w1 w2) : RefN base w w2 As Aq As' cs' Aq' cq' E := h.trans (RefN.of h.rm hb)
end
theorem rput_ans (base : Nat) (As : Option Addr) (cs : Nat) (Aq : Option Addr) (cq : Nat) (D : Dsk) (x : Int) (b : List UInt8) (w : World) (h : RefM w base As cs Aq cq D) (hbs : base ≤ w.heap.size) (hb : b.length = 64) (hs : D.steps < 1000000) (hq : D.queue.length < 1000000) :
    Calls Try.prog 33 #[.agg (refV As cs Aq cq D), .int .i64 x, .string (txt b)] w (RefAns base w As Aq (wrtP D x b)) := by
  by_cases hx : 0 ≤ x ∧ x < D.sure.length
  · obtain ⟨i, rfl⟩ : ∃ i : Nat, x = (i : Int) := ⟨x.toNat, by omega⟩
    have hi : i < D.sure.length := by omega
    by_cases hl : D.left = 0
    · have e : wrtP D (i : Int) b = (102, D) := by unfold wrtP; rw [if_neg (fun hn => hn hx), if_pos hl]
      rw [e]
      refine (rput_dead As cs Aq cq D i b w hi hb hl h.ok.n).mono ?_
      rintro e w' ⟨rfl, h1⟩
      exact ⟨As, cs, Aq, cq, rfl, RefN.of h h1⟩
    · have e : wrtP D (i : Int) b = (0, D.wrote i b) := by unfold wrtP; rw [if_neg (fun hn => hn hx), if_neg hl, Int.toNat_natCast]
      rw [e]
      refine (rput_ok base As cs Aq cq D i b w h hbs hi hb hl hs hq).mono ?_
      rintro e w' ⟨A', c', rfl, h1, h2, h3⟩
      exact ⟨As, cs, A', c', rfl, h1, h2, fun _ h => .inr h, fun g hg => .inl (h3 g hg)⟩
  · have e : wrtP D x b = (22, D) := by unfold wrtP; rw [if_pos hx]
    rw [e]
    refine (rput_no As cs Aq cq D x b w (.inl hx) (by omega) h.ok.n).mono ?_
    rintro e w' ⟨rfl, h1⟩
    exact ⟨As, cs, Aq, cq, rfl, RefN.of h h1⟩
theorem rbar_ans (base : Nat) (As : Option Addr) (cs : Nat) (Aq : Option Addr) (cq : Nat) (D : Dsk) (w : World) (h : RefM w base As cs Aq cq D) (hbs : base ≤ w.heap.size) (hs : D.steps < 1000000) :
    Calls Try.prog 46 #[.agg (refV As cs Aq cq D)] w (RefAns base w As Aq (barP D)) := by
  unfold barP
  by_cases hl : D.left = 0
  · rw [if_pos hl]
    refine (rbar_dead As cs Aq cq D w hl).mono ?_
    rintro e w' ⟨rfl, h1⟩
    exact ⟨As, cs, Aq, cq, rfl, RefN.of h h1⟩
  · rw [if_neg hl]
    refine (rbar_ok base As cs Aq cq D w h hbs hl hs).mono ?_
    rintro e w' ⟨A', c', rfl, h1, h2, h3⟩
    exact ⟨A', c', none, 0, rfl, h1, h2, fun g hg => .inl (h3 g hg), fun g hg => by cases hg⟩
theorem read_lenD {D : Dsk} (h : D.Ok) {i : Nat} (hi : i < D.sure.length) : (D.read i).length = 64 :=
  readQ_len _ _ _ (by rw [List.getD_eq_getElem?_getD, List.getElem?_eq_getElem hi]; exact h.b _ (List.getElem_mem hi)) (fun x hx => (h.q x hx).1)
theorem ret_rcnt {K : Ending → World → Prop} {tmps : Array Value} {w : World} {g : Nat} {a b c d : Int} {v : Value} (hp : tmps.getD 3 undef = .pointer (some ⟨g, 0, none⟩)) (hq : tmps.getD 2 undef = v) (hB : Blk w g 30 (ptC a b c d))
    (hK : K (.returned (.tuple #[v, ptV a b c d])) w) : bodyPost Try.prog Try.f34 K .ret ⟨tmps, []⟩ w :=
  bodyPost_ret (results_tc rfl tmps w g _ _ (0, 0) _ hp hB Try.underlying30 rfl (by kernel_rfl)) rfl (by rw [hq]; exact hK)
theorem cnt_nn {D : Dsk} (h : 2 < D.sure.length) (ha : decP (D.read 1) = none) (hb : decP (D.read 2) = none) : countsP D = (0, pt0) := by
  have e : countsP D = cntStep 2 (decP (D.read 2)) (cntStep 1 (decP (D.read 1)) (0, pt0)) := by unfold countsP; rw [if_pos h]; rfl
  rw [e, ha, hb]; rfl
theorem cnt_sn {D : Dsk} {p : Pt} (h : 2 < D.sure.length) (ha : decP (D.read 1) = some p) (hb : decP (D.read 2) = none) : countsP D = (1, p) := by
  have e : countsP D = cntStep 2 (decP (D.read 2)) (cntStep 1 (decP (D.read 1)) (0, pt0)) := by unfold countsP; rw [if_pos h]; rfl
  rw [e, ha, hb]; rfl
theorem cnt_ns {D : Dsk} {q : Pt} (h : 2 < D.sure.length) (ha : decP (D.read 1) = none) (hb : decP (D.read 2) = some q) : countsP D = (2, q) := by
  have e : countsP D = cntStep 2 (decP (D.read 2)) (cntStep 1 (decP (D.read 1)) (0, pt0)) := by unfold countsP; rw [if_pos h]; rfl
  rw [e, ha, hb]; rfl
theorem cnt_ss {D : Dsk} {p q : Pt} (h : 2 < D.sure.length) (ha : decP (D.read 1) = some p) (hb : decP (D.read 2) = some q) : countsP D = if newP q.e q.c p.e p.c = true then (2, q) else (1, p) := by
  have e : countsP D = cntStep 2 (decP (D.read 2)) (cntStep 1 (decP (D.read 1)) (0, pt0)) := by unfold countsP; rw [if_pos h]; rfl
  rw [e, ha, hb]
  show (if (1 : Nat) = 0 ∨ q.newer p = true then (2, q) else (1, p)) = _
  unfold Pt.newer
  split <;> split <;> first | rfl | (exfalso; simp_all)

set_option maxHeartbeats 4000000 in
set_option maxRecDepth 100000 in
theorem rcounts_any (w : World) (base : Nat) (As : Option Addr) (cs : Nat) (Aq : Option Addr) (cq : Nat) (D : Dsk) (h : RefM w base As cs Aq cq D) :
    Calls Try.prog 34 #[.agg (refV As cs Aq cq D)] w fun e w' => e = .returned (.tuple #[.int .i64 ((countsP D).1 : Int), (countsP D).2.val]) ∧ Below w.heap.size w w' := by
  have H := hide h
  have HN := h.ok.n
  have HQN := h.ok.qn
  have C1 := hide (fun w1 (hb : Below w.heap.size w w1) (i : Nat) (hi : i < D.sure.length) => rread_any w1 base As cs Aq cq D (H.out.below hb) i hi)
  have RL := hide (fun (i : Nat) (hi : i < D.sure.length) => read_lenD h.ok hi)
  unfold refV at C1 ⊢
  clear h
  go_enter Try.func34, Try.ntmps34
  go_upto_region 1 with fail
  have K1 := hide ((Blk.new w 64 #[.slice As D.sure.length cs, .slice Aq D.queue.length cq, .int .i64 (D.steps : Int), .int .i64 D.left]).alloc (.cells (ptC 0 0 0 0) 30))
  have K3 := Blk.new (w.alloc (.cells #[.slice As D.sure.length cs, .slice Aq D.queue.length cq, .int .i64 (D.steps : Int), .int .i64 D.left] 64)) 30 (ptC 0 0 0 0)
  rw [World.size_alloc] at K3
  have K3 := hide K3
  have B1 := hide (((Below.refl w.heap.size w).alloc (Nat.le_refl _) (.cells #[.slice As D.sure.length cs, .slice Aq D.queue.length cq, .int .i64 (D.steps : Int), .int .i64 D.left] 64)).alloc (by simp) (.cells (ptC 0 0 0 0) 30))
  generalize (w.alloc _).alloc _ = w1 at *
  obtain ⟨c0, c1, c2, c3, -⟩ := blk4 K1.out
  by_cases h3 : 2 < D.sure.length
  · have h3d : decide ((D.sure.length : Int) < 3) = false := decide_eq_false (by omega)
    have H3 := hide h3
    clear h3
    go_wp2_with fail
    clear c0 c1 c2 c3 h3d
    refine (C1.out w1 B1.out 1 (by have := H3.out; omega)).mono ?_
    rintro e w2 ⟨rfl, hb⟩
    replace K1 := hide (K1.out.below hb)
    replace K3 := hide (K3.out.below hb)
    replace B1 := hide (B1.out.trans (hb.mono B1.out.size))
    clear hb
    go_wp2_with fail
    refine (rdec17 (D.read 1) w2 (by rw [RL.out 1 (by have := H3.out; omega)]; decide)).mono ?_
    rintro e w3 ⟨rfl, hb⟩
    obtain ⟨a, ha⟩ : ∃ a, a = decP (D.read 1) := ⟨_, rfl⟩
    obtain ⟨b, hb2⟩ : ∃ b, b = decP (D.read 2) := ⟨_, rfl⟩
    have HA := hide ha.symm
    have HB := hide hb2.symm
    clear ha hb2
    have ⟨⟨ae, ac, an, af⟩, acode, hav, haf⟩ : ∃ (p : Pt) (code : Int), decV (D.read 1) = .tuple #[p.val, .int .i64 code] ∧ ((a = none ∧ code = 100) ∨ (a = some p ∧ code = 0)) := by
      rcases a with _ | p
      · exact ⟨⟨0, 0, 0, 0⟩, 100, decV_none HA.out, .inl ⟨rfl, rfl⟩⟩
      · exact ⟨p, 0, decV_some HA.out, .inr ⟨rfl, rfl⟩⟩
    have ⟨⟨be, bc, bn, bf⟩, bcode, hbv, hbf⟩ : ∃ (p : Pt) (code : Int), decV (D.read 2) = .tuple #[p.val, .int .i64 code] ∧ ((b = none ∧ code = 100) ∨ (b = some p ∧ code = 0)) := by
      rcases b with _ | p
      · exact ⟨⟨0, 0, 0, 0⟩, 100, decV_none HB.out, .inl ⟨rfl, rfl⟩⟩
      · exact ⟨p, 0, decV_some HB.out, .inr ⟨rfl, rfl⟩⟩
    have HBV := hide hbv
    have HAF := hide haf
    have HBF := hide hbf
    rw [hav]
    clear hav hbv haf hbf
    replace K1 := hide ((K1.out.below hb).alloc (.cells (ptC ae ac an af) 30))
    replace K3 := hide ((K3.out.below hb).alloc (.cells (ptC ae ac an af) 30))
    have K4 := hide (Blk.new w3 30 (ptC ae ac an af))
    replace B1 := hide ((B1.out.trans (hb.mono B1.out.size)).alloc (Nat.le_trans B1.out.size hb.size) (.cells (ptC ae ac an af) 30))
    clear hb
    go_upto_region 4 with fail
    obtain ⟨g4, hg4⟩ : ∃ g, g = w3.heap.size := ⟨_, rfl⟩
    rw [← hg4] at K4 ⊢
    clear hg4
    generalize w3.alloc _ = w4 at *
    obtain ⟨c0, c1, c2, c3, -⟩ := blk4 K1.out
    go_wp2_with fail
    clear c0 c1 c2 c3
    refine (C1.out w4 B1.out 2 H3.out).mono ?_
    rintro e w5 ⟨rfl, hb⟩
    replace K3 := hide (K3.out.below hb)
    replace K4 := hide (K4.out.below hb)
    replace B1 := hide (B1.out.trans (hb.mono B1.out.size))
    clear hb K1
    go_wp2_with fail
    refine (rdec17 (D.read 2) w5 (by rw [RL.out 2 H3.out]; decide)).mono ?_
    rintro e w6 ⟨rfl, hb⟩
    rw [HBV.out]
    replace K3 := hide ((K3.out.below hb).alloc (.cells (ptC be bc bn bf) 30))
    replace K4 := hide ((K4.out.below hb).alloc (.cells (ptC be bc bn bf) 30))
    have K6 := hide (Blk.new w6 30 (ptC be bc bn bf))
    replace B1 := hide ((B1.out.trans (hb.mono B1.out.size)).alloc (Nat.le_trans B1.out.size hb.size) (.cells (ptC be bc bn bf) 30))
    clear hb
    go_upto_region 5 with fail
    obtain ⟨g6, hg6⟩ : ∃ g, g = w6.heap.size := ⟨_, rfl⟩
    rw [← hg6] at K6 ⊢
    clear hg6
    generalize w6.alloc _ = w7 at *
    obtain ⟨c0, c1, c2, c3, f0, f1, f2, f3⟩ := blk4 K3.out
    obtain ⟨d0, d1, d2, d3, -⟩ := blk4 K4.out
    obtain ⟨e0, e1, e2, e3, -⟩ := blk4 K6.out
    rcases HAF.out with ⟨ha, rfl⟩ | ⟨ha, rfl⟩ <;> rcases HBF.out with ⟨hb, rfl⟩ | ⟨hb, rfl⟩
    · have HC := hide (cnt_nn H3.out (by rw [HA.out, ha]) (by rw [HB.out, hb]))
      clear ha hb
      go_wp2_with fail
      exact ret_rcnt rfl rfl (put4_blk K3.out) ⟨by rw [HC.out]; rfl, put4_bel B1.out (by omega)⟩
    · have HC := hide (cnt_ns H3.out (by rw [HA.out, ha]) (by rw [HB.out, hb]))
      clear ha hb
      go_wp2_with fail
      go_region
      go_wp2_with fail
      exact ret_rcnt rfl rfl (put4_blk K3.out).drew ⟨by rw [HC.out]; rfl, (put4_bel B1.out (by omega)).drew⟩
    · have HC := hide (cnt_sn H3.out (by rw [HA.out, ha]) (by rw [HB.out, hb]))
      clear ha hb
      go_wp2_with fail
      go_region
      go_wp2_with fail
      exact ret_rcnt rfl rfl (put4_blk K3.out).drew ⟨by rw [HC.out]; rfl, (put4_bel B1.out (by omega)).drew⟩
    · have HC := hide (cnt_ss H3.out (by rw [HA.out, ha]) (by rw [HB.out, hb]))
      clear ha hb
      go_wp2_with fail
      refine (rnewer_any be bc bn bf ae ac an af w7).mono ?_
      rintro e w8 ⟨rfl, hb⟩
      replace K3 := hide (K3.out.below hb)
      replace K4 := hide (K4.out.below hb)
      replace K6 := hide (K6.out.below hb)
      replace B1 := hide (B1.out.trans (hb.mono B1.out.size))
      clear hb c0 c1 c2 c3 f0 f1 f2 f3 d0 d1 d2 d3 e0 e1 e2 e3
      obtain ⟨c0, c1, c2, c3, f0, f1, f2, f3⟩ := blk4 K3.out
      obtain ⟨d0, d1, d2, d3, -⟩ := blk4 K4.out
      obtain ⟨e0, e1, e2, e3, -⟩ := blk4 K6.out
      by_cases hn : newP be bc ae ac = true
      · replace HC := hide (HC.out.trans (if_pos hn))
        rw [hn]
        clear hn
        go_wp2_with fail
        go_region
        go_wp2_with fail
        exact ret_rcnt rfl rfl (put4_blk K3.out).drew ⟨by rw [HC.out]; rfl, (put4_bel B1.out (by omega)).drew⟩
      · replace HC := hide (HC.out.trans (if_neg hn))
        rw [Bool.not_eq_true] at hn
        rw [hn]
        clear hn
        go_wp2_with fail
        go_region
        go_wp2_with fail
        exact ret_rcnt rfl rfl (put4_blk K3.out).drew ⟨by rw [HC.out]; rfl, (put4_bel B1.out (by omega)).drew⟩
  · have h3d : decide ((D.sure.length : Int) < 3) = true := decide_eq_true (by omega)
    have HC := hide (show countsP D = (0, pt0) from if_neg h3)
    obtain ⟨d0, d1, d2, d3, f0, f1, f2, f3⟩ := blk4 K3.out
    clear h3
    go_wp2_with fail
    exact ret_rcnt rfl rfl (put4_blk K3.out) ⟨by rw [HC.out]; rfl, put4_bel B1.out (by omega)⟩
end Go.Proofs.Ytfaingklglelnaa

/- The reference's Arm, Wipe, Save as one answer. -/
namespace Go.Proofs.Ytfaingklglelnaa
open Go.RowKit
attribute [local go_sem ↓] Go.wp_at_zero Go.wp_at_succ

/-- The reference's disk while two boxes of the call's own are written. -/
structure RS (base : Nat) (w w' : World) (As Aq As' : Option Addr) (cs' : Nat) (Aq' : Option Addr) (cq' : Nat) (E : Dsk) (g1 g2 : Nat) : Prop where
  n : RefN base w w' As Aq As' cs' Aq' cq' E
  ns : ∀ k, (Value.slice As' 0 0).ownBlock = some k → k ≠ g1 ∧ k ≠ g2
  nq : ∀ k, (Value.slice Aq' 0 0).ownBlock = some k → k ≠ g1 ∧ k ≠ g2
  l : g1 < w'.heap.size ∧ g2 < w'.heap.size
  g : w.heap.size ≤ g1 ∧ w.heap.size ≤ g2
section
variable {base g1 g2 : Nat} {w w1 w2 : World} {As Aq As' Aq' As2 Aq2 : Option Addr} {cs cq cs' cq' cs2 cq2 : Nat} {D E F : Dsk}
theorem RS.start (h : RefM w base As cs Aq cq D) (hb : Below w.heap.size w w1) (h1 : w.heap.size ≤ g1 ∧ g1 < w1.heap.size) (h2 : w.heap.size ≤ g2 ∧ g2 < w1.heap.size) : RS base w w1 As Aq As cs Aq cq D g1 g2 :=
  ⟨RefN.of h hb, fun k hk => by have := (h.sLt k hk).2; omega, fun k hk => by have := (h.qLt k hk).2; omega, ⟨h1.2, h2.2⟩, h1.1, h2.1⟩
theorem RS.call (r : RS base w w1 As Aq As' cs' Aq' cq' E g1 g2) (k : RefN base w1 w2 As' Aq' As2 cs2 Aq2 cq2 F) : RS base w w2 As Aq As2 cs2 Aq2 cq2 F g1 g2 :=
  ⟨r.n.trans k, fun b hb => (k.fs b hb).elim (fun e => by have := r.l; omega) (r.ns b), fun b hb => (k.fq b hb).elim (fun e => by have := r.l; omega) (r.nq b), ⟨Nat.lt_of_lt_of_le r.l.1 k.bel.size, Nat.lt_of_lt_of_le r.l.2 k.bel.size⟩, r.g⟩
theorem RS.below (r : RS base w w1 As Aq As' cs' Aq' cq' E g1 g2) (hb : Below w1.heap.size w1 w2) : RS base w w2 As Aq As' cs' Aq' cq' E g1 g2 := r.call (RefN.of r.n.rm hb)
theorem RS.set (r : RS base w w1 As Aq As' cs' Aq' cq' E g1 g2) {g : Nat} (hg : g = g1 ∨ g = g2) (i : Nat) (v : Value) : RS base w (w1.setCell ⟨g, i, none⟩ v) As Aq As' cs' Aq' cq' E g1 g2 := by
  have hge : w.heap.size ≤ g := hg.elim (fun e => e ▸ r.g.1) (fun e => e ▸ r.g.2)
  have hK : Kp [g] w1 (w1.setCell ⟨g, i, none⟩ v) := (Kp.refl [g] w1).set (p := ⟨g, i, none⟩) (.inl (by simp)) v
  refine ⟨⟨r.n.rm.kp hK (fun k hk => ?_) (fun k hk => ?_), r.n.bel.setCell (p := ⟨g, i, none⟩) hge v, r.n.fs, r.n.fq⟩, r.ns, r.nq, by simpa [World.setCell] using r.l, r.g⟩
  · have := r.ns k hk
    simp only [List.mem_singleton]
    rcases hg with rfl | rfl
    · exact this.1
    · exact this.2
  · have := r.nq k hk
    simp only [List.mem_singleton]
    rcases hg with rfl | rfl
    · exact this.1
    · exact this.2
theorem RS.set4 (r : RS base w w1 As Aq As' cs' Aq' cq' E g1 g2) {g : Nat} (hg : g = g1 ∨ g = g2) (y0 y1 y2 y3 : Value) :
    RS base w ((((w1.setCell ⟨g, 0, none⟩ y0).setCell ⟨g, 1, none⟩ y1).setCell ⟨g, 2, none⟩ y2).setCell ⟨g, 3, none⟩ y3) As Aq As' cs' Aq' cq' E g1 g2 := (((r.set hg 0 y0).set hg 1 y1).set hg 2 y2).set hg 3 y3
theorem RS.to (r : RS base w w1 As Aq As' cs' Aq' cq' E g1 g2) (e1 : F.sure = E.sure) (e2 : F.queue = E.queue) (ok : F.Ok) : RS base w w1 As Aq As' cs' Aq' cq' F g1 g2 :=
  ⟨⟨r.n.rm.to e1 e2 ok, r.n.bel, r.n.fs, r.n.fq⟩, r.ns, r.nq, r.l, r.g⟩
end
theorem set4b {w : World} {g : Nat} {t : TypeId} {x0 x1 x2 x3 : Value} (h : Blk w g t #[x0, x1, x2, x3]) (y0 y1 y2 y3 : Value) :
    Blk ((((w.setCell ⟨g, 0, none⟩ y0).setCell ⟨g, 1, none⟩ y1).setCell ⟨g, 2, none⟩ y2).setCell ⟨g, 3, none⟩ y3) g t #[y0, y1, y2, y3] := (((h.set 0 y0).set 1 y1).set 2 y2).set 3 y3
theorem far4D {w : World} {g g' : Nat} {t : TypeId} {cs : Array Value} (h : Blk w g t cs) (hn : g ≠ g') (y0 y1 y2 y3 : Value) :
    Blk ((((w.setCell ⟨g', 0, none⟩ y0).setCell ⟨g', 1, none⟩ y1).setCell ⟨g', 2, none⟩ y2).setCell ⟨g', 3, none⟩ y3) g t cs :=
  (((h.far (p := ⟨g', 0, none⟩) hn y0).far (p := ⟨g', 1, none⟩) hn y1).far (p := ⟨g', 2, none⟩) hn y2).far (p := ⟨g', 3, none⟩) hn y3
theorem cell4 {w : World} {g : Nat} {t : TypeId} {x0 x1 x2 x3 : Value} (h : Blk w g t #[x0, x1, x2, x3]) : w.cell? ⟨g, 0, none⟩ = some x0 ∧ w.cell? ⟨g, 1, none⟩ = some x1 ∧ w.cell? ⟨g, 2, none⟩ = some x2 ∧ w.cell? ⟨g, 3, none⟩ = some x3 ∧
    w.frozen? ⟨g, 0, none⟩ = false ∧ w.frozen? ⟨g, 1, none⟩ = false ∧ w.frozen? ⟨g, 2, none⟩ = false ∧ w.frozen? ⟨g, 3, none⟩ = false := ⟨h.cell 0, h.cell 1, h.cell 2, h.cell 3, h.frozen 0, h.frozen 1, h.frozen 2, h.frozen 3⟩
theorem ret_da {K : Ending → World → Prop} {fn : Func} {p q : Tmp} {a : Act} {w : World} {g : Nat} {x0 x1 x2 x3 v : Value} (hr : fn.results = #[.cell p 64, .tmp q]) (hd : a.defers = []) (hp : a.tmps.getD p undef = .pointer (some ⟨g, 0, none⟩)) (hq : a.tmps.getD q undef = v) (hB : Blk w g 64 #[x0, x1, x2, x3])
    (hK : K (.returned (.tuple #[.agg #[x0, x1, x2, x3], v])) w) : bodyPost Try.prog fn K .ret a w := by
  have hp' : a.tmps[p]?.getD undef = .pointer (some ⟨g, 0, none⟩) := by simpa using hp
  have hq' : a.tmps[q]?.getD undef = v := by simpa using hq
  refine bodyPost_ret (v := .tuple #[.agg #[x0, x1, x2, x3], v]) ?_ hd hK
  simp [results, hr, hp', hq', asAddr, run_loadVar_row w g 64 64 #[x0, x1, x2, x3] (0, 0) _ hB Try.underlying64 rfl (by kernel_rfl)]
set_option maxRecDepth 100000 in
theorem rarm_ans (base : Nat) (As : Option Addr) (cs : Nat) (Aq : Option Addr) (cq : Nat) (D : Dsk) (n : Int) (w : World) (h : RefM w base As cs Aq cq D) (hn : n ≤ 9223372036854775807) :
    Calls Try.prog 29 #[.agg (refV As cs Aq cq D), .int .i64 n] w (RefAns base w As Aq (armP D n)) := by
  have H := hide h
  have HOK := h.ok
  obtain ⟨w1, hw1⟩ : ∃ W, W = (w.alloc (.cells #[.slice As D.sure.length cs, .slice Aq D.queue.length cq, .int .i64 (D.steps : Int), .int .i64 D.left] 64)).alloc (.cells #[.slice none 0 0, .slice none 0 0, .int .i64 0, .int .i64 0] 64) := ⟨_, rfl⟩
  have K1 : Hid (Blk w1 w.heap.size 64 #[.slice As D.sure.length cs, .slice Aq D.queue.length cq, .int .i64 (D.steps : Int), .int .i64 D.left]) := hide (by rw [hw1]; exact (Blk.new _ _ _).alloc _)
  have K2 : Hid (Blk w1 (w.heap.size + 1) 64 #[.slice none 0 0, .slice none 0 0, .int .i64 0, .int .i64 0]) := hide (by
    rw [hw1]
    have := Blk.new (w.alloc (.cells #[.slice As D.sure.length cs, .slice Aq D.queue.length cq, .int .i64 (D.steps : Int), .int .i64 D.left] 64)) 64 #[.slice none 0 0, .slice none 0 0, .int .i64 0, .int .i64 0]
    rwa [World.size_alloc] at this)
  have hb1 : Below w.heap.size w w1 := by rw [hw1]; exact ((Below.refl _ _).alloc (Nat.le_refl _) _).alloc (by simp) _
  have R1 := hide (RS.start (g1 := w.heap.size) (g2 := w.heap.size + 1) h hb1 ⟨Nat.le_refl _, K1.out.lt⟩ ⟨Nat.le_succ _, K2.out.lt⟩)
  have hne : w.heap.size + 1 ≠ w.heap.size := Nat.succ_ne_self _
  clear h hb1
  unfold refV
  by_cases h0 : n < 0
  · have e : armP D n = (22, D) := by unfold armP; rw [if_pos h0]
    rw [e]
    obtain ⟨c0, c1, c2, c3, -⟩ := cell4 K1.out
    obtain ⟨d0, d1, d2, d3, f0, f1, f2, f3⟩ := cell4 K2.out
    go_enter Try.func29, Try.ntmps29
    go_upto_region 1 with fail
    rw [← hw1]
    clear hw1
    go_wp2_with fail
    exact ret_da rfl rfl rfl rfl (set4b K2.out _ _ _ _) ⟨As, cs, Aq, cq, rfl, (R1.out.set4 (.inr rfl) _ _ _ _).n⟩
  · by_cases hl : D.left = 0
    · have e : armP D n = (102, D) := by unfold armP; rw [if_neg h0, if_pos hl]
      rw [e]
      have hlb : (D.left == 0) = true := beq_iff_eq.2 hl
      clear hl
      obtain ⟨c0, c1, c2, c3, -⟩ := cell4 K1.out
      obtain ⟨d0, d1, d2, d3, f0, f1, f2, f3⟩ := cell4 K2.out
      go_enter Try.func29, Try.ntmps29
      go_upto_region 1 with fail
      rw [← hw1]
      clear hw1
      go_wp2_with fail
      exact ret_da rfl rfl rfl rfl (set4b K2.out _ _ _ _) ⟨As, cs, Aq, cq, rfl, (R1.out.set4 (.inr rfl) _ _ _ _).n⟩
    · have e : armP D n = (0, { D with left := n }) := by unfold armP; rw [if_neg h0, if_neg hl]
      rw [e]
      have hlb : (D.left == 0) = false := beq_eq_false_iff_ne.2 hl
      obtain ⟨c0, c1, c2, c3, g0, g1, g2, g3⟩ := cell4 K1.out
      have R2 := hide ((R1.out.set (.inl rfl) 3 (.int .i64 n)).to (F := ({ D with left := n } : Dsk)) rfl rfl ⟨HOK.b, HOK.q, HOK.n, ⟨by show -1 ≤ n; omega, hn⟩, HOK.s, HOK.qn⟩)
      have K3 : Hid (Blk (w1.setCell ⟨w.heap.size, 3, none⟩ (.int .i64 n)) w.heap.size 64 #[.slice As D.sure.length cs, .slice Aq D.queue.length cq, .int .i64 (D.steps : Int), .int .i64 n]) := hide (K1.out.set 3 _)
      have K4 := hide (K2.out.far (p := ⟨w.heap.size, 3, none⟩) hne (.int .i64 n))
      clear hl
      go_enter Try.func29, Try.ntmps29
      go_upto_region 1 with fail
      rw [← hw1]
      clear hw1
      go_upto_region 6 with fail
      obtain ⟨w2, hw2⟩ : ∃ W, W = w1.setCell ⟨w.heap.size, 3, none⟩ (.int .i64 n) := ⟨_, rfl⟩
      rw [← hw2] at R2 K3 K4 ⊢
      clear hw2 c0 c1 c2 c3 g0 g1 g2 g3
      obtain ⟨c0, c1, c2, c3, -⟩ := cell4 K3.out
      obtain ⟨d0, d1, d2, d3, f0, f1, f2, f3⟩ := cell4 K4.out
      go_wp2_with fail
      exact ret_da rfl rfl rfl rfl (set4b K4.out _ _ _ _) ⟨As, cs, Aq, cq, rfl, (R2.out.set4 (.inr rfl) _ _ _ _).n⟩
theorem by_newB (w : World) (l : List UInt8) : By (w.alloc (.cells (u8s l).toArray 5)) (w.heap.size + 1) (some ⟨w.heap.size, 0, none⟩) l.length l := by
  refine ⟨by simp [u8s], fun i u hu => ⟨_, rfl, by simp, ?_⟩⟩
  rw [Addr.add_mid, Nat.zero_add, (Blk.new w _ _).cell]
  simpa using hu
set_option maxRecDepth 100000 in
set_option maxHeartbeats 2000000 in
theorem rwipe_ans (base : Nat) (As : Option Addr) (cs : Nat) (Aq : Option Addr) (cq : Nat) (D : Dsk) (w : World) (h : RefM w base As cs Aq cq D) (hbs : base ≤ w.heap.size) (hs : D.steps < 900000) (hq : D.queue.length < 900000) :
    Calls Try.prog 28 #[.agg (refV As cs Aq cq D)] w (RefAns base w As Aq (wipeP D)) := by
  have HNN := h.ok.n
  have HQN := h.ok.qn
  have HS := hide hs
  have HQ := hide hq
  have HBS := hide hbs
  obtain ⟨w1, hw1⟩ : ∃ W, W = (w.alloc (.cells #[.slice As D.sure.length cs, .slice Aq D.queue.length cq, .int .i64 (D.steps : Int), .int .i64 D.left] 64)).alloc (.cells #[.slice none 0 0, .slice none 0 0, .int .i64 0, .int .i64 0] 64) := ⟨_, rfl⟩
  have K1 : Hid (Blk w1 w.heap.size 64 #[.slice As D.sure.length cs, .slice Aq D.queue.length cq, .int .i64 (D.steps : Int), .int .i64 D.left]) := hide (by rw [hw1]; exact (Blk.new _ _ _).alloc _)
  have K2 : Hid (Blk w1 (w.heap.size + 1) 64 #[.slice none 0 0, .slice none 0 0, .int .i64 0, .int .i64 0]) := hide (by
    rw [hw1]
    have := Blk.new (w.alloc (.cells #[.slice As D.sure.length cs, .slice Aq D.queue.length cq, .int .i64 (D.steps : Int), .int .i64 D.left] 64)) 64 #[.slice none 0 0, .slice none 0 0, .int .i64 0, .int .i64 0]
    rwa [World.size_alloc] at this)
  have hb1 : Below w.heap.size w w1 := by rw [hw1]; exact ((Below.refl _ _).alloc (Nat.le_refl _) _).alloc (by simp) _
  have R1 := hide (RS.start (g1 := w.heap.size) (g2 := w.heap.size + 1) h hb1 ⟨Nat.le_refl _, K1.out.lt⟩ ⟨Nat.le_succ _, K2.out.lt⟩)
  have hne : w.heap.size + 1 ≠ w.heap.size := Nat.succ_ne_self _
  clear h hb1 hs hq hbs
  by_cases h3 : D.sure.length < 3
  · have e : wipeP D = (22, D) := by unfold wipeP; rw [if_pos h3]
    rw [e]
    have h3d : decide ((D.sure.length : Int) < 3) = true := decide_eq_true (by omega)
    obtain ⟨c0, c1, c2, c3, -⟩ := cell4 K1.out
    obtain ⟨d0, d1, d2, d3, f0, f1, f2, f3⟩ := cell4 K2.out
    unfold refV
    clear h3
    go_enter Try.func28, Try.ntmps28
    go_upto_region 1 with fail
    rw [← hw1]
    clear hw1
    go_wp2_with fail
    exact ret_da rfl rfl rfl rfl (set4b K2.out _ _ _ _) ⟨As, cs, Aq, cq, rfl, (R1.out.set4 (.inr rfl) _ _ _ _).n⟩
  · have H3 := hide h3
    have h3d : decide ((D.sure.length : Int) < 3) = false := decide_eq_false (by omega)
    obtain ⟨W0, hW0⟩ : ∃ R, R = wipeP D := ⟨_, rfl⟩
    have HW0 := hide hW0
    rw [← hW0]
    obtain ⟨c0, c1, c2, c3, -⟩ := cell4 K1.out
    have mk := mk_64
    unfold refV
    clear h3 hW0
    go_enter Try.func28, Try.ntmps28
    go_upto_region 1 with fail
    rw [← hw1]
    clear hw1
    have hcv := run_conv_txt (P := Try.prog) (w1.alloc (.cells (u8s zero64).toArray 5)) Try.underlying24 Try.underlying5 Try.underlying9 64 (by_newB w1 zero64)
    rw [show zero64.length = 64 from rfl] at hcv
    go_upto_region 4 with fail
    clear hcv c0 c1 c2 c3 h3d
    obtain ⟨w2, hw2⟩ : ∃ W, W = w1.alloc (.cells (u8s zero64).toArray 5) := ⟨_, rfl⟩
    have hb2 : Below w1.heap.size w1 w2 := by rw [hw2]; exact (Below.refl _ _).alloc (Nat.le_refl _) _
    rw [← hw2]
    have R2 := hide (R1.out.below hb2)
    replace K1 := hide (K1.out.below hb2)
    replace K2 := hide (K2.out.below hb2)
    clear hw2 hb2 R1
    obtain ⟨c0, c1, c2, c3, -⟩ := cell4 K1.out
    go_wp2_with fail
    clear c0 c1 c2 c3
    have C1 := rput_ans base As cs Aq cq D 1 zero64 w2 R2.out.n.rm (Nat.le_trans HBS.out R2.out.n.bel.size) rfl (by have := HS.out; omega) (by have := HQ.out; omega)
    unfold refV at C1
    refine C1.mono ?_
    rintro e w3 ⟨As1, cs1, Aq1, cq1, rfl, k1⟩
    have R3 := hide (R2.out.call k1)
    have NU := hide (wrtP_num D 1 zero64)
    replace K1 := hide (K1.out.below k1.bel)
    replace K2 := hide (K2.out.below k1.bel)
    obtain ⟨E, hE⟩ : ∃ E, E = wrtP D 1 zero64 := ⟨_, rfl⟩
    rw [← hE] at R3 NU ⊢
    have HE := hide hE
    clear C1 k1 hE
    obtain ⟨d0, d1, d2, d3, f0, f1, f2, f3⟩ := cell4 K1.out
    unfold refV
    go_upto_region 5 with fail
    clear d0 d1 d2 d3 f0 f1 f2 f3
    obtain ⟨w4, hw4⟩ : ∃ W, W = (((w3.setCell ⟨w.heap.size, 0, none⟩ (.slice As1 E.2.sure.length cs1)).setCell ⟨w.heap.size, 1, none⟩ (.slice Aq1 E.2.queue.length cq1)).setCell ⟨w.heap.size, 2, none⟩ (.int .i64 (E.2.steps : Int))).setCell ⟨w.heap.size, 3, none⟩ (.int .i64 E.2.left) := ⟨_, rfl⟩
    have R4 : Hid (RS base w w4 As Aq As1 cs1 Aq1 cq1 E.2 w.heap.size (w.heap.size + 1)) := hide (by rw [hw4]; exact R3.out.set4 (.inl rfl) _ _ _ _)
    have L1 : Hid (Blk w4 w.heap.size 64 #[.slice As1 E.2.sure.length cs1, .slice Aq1 E.2.queue.length cq1, .int .i64 (E.2.steps : Int), .int .i64 E.2.left]) := hide (by rw [hw4]; exact set4b K1.out _ _ _ _)
    have L2 : Hid (Blk w4 (w.heap.size + 1) 64 #[.slice none 0 0, .slice none 0 0, .int .i64 0, .int .i64 0]) := hide (by rw [hw4]; exact far4D K2.out hne _ _ _ _)
    rw [← hw4]
    clear hw4 R3 R2 K1 K2
    by_cases hc : E.1 = 0
    · have hcb : (E.1 == 0) = true := beq_iff_eq.2 hc
      have HC := hide hc
      clear hc
      obtain ⟨c0, c1, c2, c3, -⟩ := cell4 L1.out
      go_wp2_with fail
      clear c0 c1 c2 c3 hcb
      have C1 := rput_ans base As1 cs1 Aq1 cq1 E.2 2 zero64 w4 R4.out.n.rm (Nat.le_trans HBS.out R4.out.n.bel.size) rfl (by have := HS.out; have := NU.out.1; omega) (by have := HQ.out; have := NU.out.2.1; omega)
      unfold refV at C1
      refine C1.mono ?_
      rintro e w5 ⟨As2, cs2, Aq2, cq2, rfl, k1⟩
      have R5 := hide (R4.out.call k1)
      have NV := hide (wrtP_num E.2 2 zero64)
      replace L1 := hide (L1.out.below k1.bel)
      replace L2 := hide (L2.out.below k1.bel)
      obtain ⟨F, hF⟩ : ∃ F, F = wrtP E.2 2 zero64 := ⟨_, rfl⟩
      rw [← hF] at R5 NV ⊢
      have HFE := hide hF
      clear C1 k1 hF
      obtain ⟨d0, d1, d2, d3, f0, f1, f2, f3⟩ := cell4 L1.out
      unfold refV
      go_upto_region 7 with fail
      clear d0 d1 d2 d3 f0 f1 f2 f3
      obtain ⟨w6, hw6⟩ : ∃ W, W = (((w5.setCell ⟨w.heap.size, 0, none⟩ (.slice As2 F.2.sure.length cs2)).setCell ⟨w.heap.size, 1, none⟩ (.slice Aq2 F.2.queue.length cq2)).setCell ⟨w.heap.size, 2, none⟩ (.int .i64 (F.2.steps : Int))).setCell ⟨w.heap.size, 3, none⟩ (.int .i64 F.2.left) := ⟨_, rfl⟩
      have R6 : Hid (RS base w w6 As Aq As2 cs2 Aq2 cq2 F.2 w.heap.size (w.heap.size + 1)) := hide (by rw [hw6]; exact R5.out.set4 (.inl rfl) _ _ _ _)
      have M1 : Hid (Blk w6 w.heap.size 64 #[.slice As2 F.2.sure.length cs2, .slice Aq2 F.2.queue.length cq2, .int .i64 (F.2.steps : Int), .int .i64 F.2.left]) := hide (by rw [hw6]; exact set4b L1.out _ _ _ _)
      have M2 : Hid (Blk w6 (w.heap.size + 1) 64 #[.slice none 0 0, .slice none 0 0, .int .i64 0, .int .i64 0]) := hide (by rw [hw6]; exact far4 L2.out hne _ _ _ _)
      rw [← hw6]
      clear hw6 R5 R4 L1 L2
      obtain ⟨c0, c1, c2, c3, -⟩ := cell4 M1.out
      by_cases hd : F.1 = 0
      · have hdb : (F.1 != 0) = false := by rw [hd]; rfl
        have HW : Hid (W0 = barP F.2) := hide (by rw [HW0.out]; unfold wipeP; rw [if_neg H3.out, if_neg (by rw [← HE.out]; exact fun h => h HC.out), if_neg (by rw [← HE.out, ← HFE.out]; exact fun h => h hd), ← HE.out, ← HFE.out])
        clear hd
        go_wp2_with fail
        clear c0 c1 c2 c3
        have C2 := rbar_ans base As2 cs2 Aq2 cq2 F.2 w6 R6.out.n.rm (Nat.le_trans HBS.out R6.out.n.bel.size) (by have := HS.out; have := NU.out.1; have := NV.out.1; omega)
        rw [← HW.out] at C2
        unfold refV at C2
        refine C2.mono ?_
        rintro e w7 ⟨As3, cs3, Aq3, cq3, rfl, k2⟩
        have R7 := hide (R6.out.call k2)
        replace M2 := hide (M2.out.below k2.bel)
        clear C2 k2
        obtain ⟨d0, d1, d2, d3, f0, f1, f2, f3⟩ := cell4 M2.out
        unfold refV
        go_wp2_with fail
        exact ret_da rfl rfl rfl rfl (set4b M2.out _ _ _ _) ⟨As3, cs3, Aq3, cq3, rfl, (R7.out.set4 (.inr rfl) _ _ _ _).n⟩
      · have hdb : (F.1 != 0) = true := bne_iff_ne.2 hd
        have HW : Hid (W0 = F) := hide (by rw [HW0.out]; unfold wipeP; rw [if_neg H3.out, if_neg (by rw [← HE.out]; exact fun h => h HC.out), if_pos (by rw [← HE.out, ← HFE.out]; exact hd), ← HE.out, ← HFE.out])
        obtain ⟨d0, d1, d2, d3, f0, f1, f2, f3⟩ := cell4 M2.out
        clear hd
        go_wp2_with fail
        exact ret_da rfl rfl rfl rfl (set4b M2.out _ _ _ _) (by rw [HW.out]; exact ⟨As2, cs2, Aq2, cq2, rfl, (R6.out.set4 (.inr rfl) _ _ _ _).n⟩)
    · have hcb : (E.1 == 0) = false := beq_eq_false_iff_ne.2 hc
      have hcb2 : (E.1 != 0) = true := bne_iff_ne.2 hc
      have HW : Hid (W0 = E) := hide (by rw [HW0.out]; unfold wipeP; rw [if_neg H3.out, if_pos (by rw [← HE.out]; exact hc), ← HE.out])
      obtain ⟨c0, c1, c2, c3, -⟩ := cell4 L1.out
      obtain ⟨d0, d1, d2, d3, f0, f1, f2, f3⟩ := cell4 L2.out
      clear hc
      go_wp2_with fail
      exact ret_da rfl rfl rfl rfl (set4b L2.out _ _ _ _) (by rw [HW.out]; exact ⟨As1, cs1, Aq1, cq1, rfl, (R4.out.set4 (.inr rfl) _ _ _ _).n⟩)
end Go.Proofs.Ytfaingklglelnaa
