import Derived.Test.YtlobkefacnedeaaDoorJb02
import Derived.Deep.CutBlock
set_option linter.unusedVariables false
set_option linter.unusedSimpArgs false
/- The walk of marllaw15.SegBatches. -/
namespace Go.Proofs.YtlobkefacnedeaaDoor
open Go.RowKit
set_option maxRecDepth 100000
attribute [local go_sem ↓] Go.wp_at_zero Go.wp_at_succ

theorem FdRow.row {base c j : Nat} {w : World} {A : Option Addr} {cs : List (List Value)} {ps : List (Int × PV)} {p : Int × PV} (h : FdRow base w A c cs ps) (hp : ps[j]? = some p) :
    ∃ g B1 d1 B2 d2 A3 n3 c3, A = some ⟨g, 0, none⟩ ∧ (∀ t u, t < 9 → (fdC p.1 p.2 B1 d1 B2 d2 A3 n3 c3).toList[t]? = some u → w.cell? ⟨g, j * 9 + t, none⟩ = some u) ∧ IntsAt base base w B2 p.2.is.length p.2.is := by
  have hj := (List.getElem?_eq_some_iff.1 hp).1
  have hl := h.len
  have hx : cs[j]? = some (cs[j]'(by omega)) := List.getElem?_eq_getElem _
  have hall : ∀ x ∈ cs, x.length = 9 := fun x hm => by
    obtain ⟨i, hi, e⟩ := List.getElem_of_mem hm
    obtain ⟨B1, d1, B2, d2, A3, n3, c3, e2, -⟩ := h.at_ i x (ps[i]'(by omega)) (by rw [List.getElem?_eq_getElem hi, e]) (List.getElem?_eq_getElem _)
    rw [e2]; rfl
  obtain ⟨B1, d1, B2, d2, A3, n3, c3, e, hi⟩ := h.at_ j _ p hx hp
  rcases h.own.2 with ⟨-, h0⟩ | ⟨g, cap, cur, hv, -, hB, -, -, -, ht⟩
  · omega
  · injection hv with hv
    refine ⟨g, B1, d1, B2, d2, A3, n3, c3, hv, fun t u h1 h2 => ?_, hi⟩
    have h3 : cs.flatten[j * 9 + t]? = some u := by
      rw [flatten_getR cs hall j t h1, hx]
      show (cs[j]'(by omega))[t]? = _
      rw [e]
      exact h2
    rw [← ht, List.getElem?_take] at h3
    split at h3
    · have hB' : Blk w g 39 cur := hB
      rw [hB'.cell]
      simpa using h3
    · cases h3
theorem okW_len : ∀ (i : Nat) (vss : List (List PV)), okW i vss → vss.length ≤ vss.flatten.length
  | _, [], _ => Nat.le_refl _
  | i, vs :: vss, h => by
    have := okW_len (i + 1) vss h.2.2
    have : 0 < vs.length := List.length_pos_iff.2 h.1
    rw [List.flatten_cons, List.length_append, List.length_cons]
    omega
theorem vflat_len : ∀ {vss : List (List PV)} {vs : List PV}, vs ∈ vss → vs.length ≤ vss.flatten.length
  | v :: vss, vs, h => by
    rw [List.flatten_cons, List.length_append]
    rcases List.mem_cons.1 h with rfl | h
    · omega
    · have := vflat_len h
      omega
/-- What holds while pieces are written. -/
structure BaI (w2 wr : World) (d g7 g12 g16 ep c : Nat) (D : Dsk) (vs : List PV) (t tw : Nat) : Prop where
  ld : LD w2 wr d D
  left : D.left < 0
  q : D.queue = []
  n : D.sure.length = 100
  len : vs.length = t
  s : D.steps ≤ 10 * t
  ch : bch D (ep : Int) (c : Int) 0 vs
  le : t ≤ 24
  x7 : Blk wr g7 73 #[.int .i64 100, .int .i64 16, .int .i64 9]
  x12 : Blk wr g12 81 #[.int .i64 (pl t : Int), .int .i64 ((c + t : Nat) : Int)]
  x16 : Blk wr g16 81 #[.int .i64 (pl tw : Int), .int .i64 ((c + tw : Nat) : Int)]
theorem BaI.below {w2 w w' : World} {d g7 g12 g16 ep c : Nat} {D : Dsk} {vs : List PV} {t tw : Nat} (h : BaI w2 w d g7 g12 g16 ep c D vs t tw) (hb : Below w.heap.size w w') : BaI w2 w' d g7 g12 g16 ep c D vs t tw :=
  { h with ld := h.ld.below hb, x7 := h.x7.below hb, x12 := h.x12.below hb, x16 := h.x16.below hb }
theorem set7x {w : World} {g : Nat} {t : TypeId} {y0 y1 y2 y3 y4 y5 y6 : Value} (h : Blk w g t #[y0, y1, y2, y3, y4, y5, y6]) (x0 x1 x2 x3 x4 x5 x6 : Value) :
    ∃ W, (((((((w.setCell ⟨g, 0, none⟩ x0).setCell ⟨g, 1, none⟩ x1).setCell ⟨g, 2, none⟩ x2).setCell ⟨g, 3, none⟩ x3).setCell ⟨g, 4, none⟩ x4).setCell ⟨g, 5, none⟩ x5).setCell ⟨g, 6, none⟩ x6) = W ∧ Blk W g t #[x0, x1, x2, x3, x4, x5, x6] ∧ Kp [g] w W := by
  have h0 := h.set 0 x0
  have h1 := h0.set 1 x1
  have h2 := h1.set 2 x2
  have h3 := h2.set 3 x3
  have h4 := h3.set 4 x4
  have h5 := h4.set 5 x5
  have h6 := h5.set 6 x6
  have hm : ∀ i, (⟨g, i, none⟩ : Addr).block ∈ [g] ∨ w.heap.size ≤ (⟨g, i, none⟩ : Addr).block := fun i => .inl (List.mem_singleton.2 rfl)
  exact ⟨_, rfl, by simpa using h6, (((((((Kp.refl [g] w).set (hm 0) x0).set (hm 1) x1).set (hm 2) x2).set (hm 3) x3).set (hm 4) x4).set (hm 5) x5).set (hm 6) x6⟩
theorem and2 {a b c : Prop} (h : a ∧ b) (k : c) : a ∧ b ∧ c := ⟨h.1, h.2, k⟩
theorem op2S {w : World} {k : Nat} {t : TypeId} {x0 x1 : Value} (h : Blk w k t #[x0, x1]) : w.cell? ⟨k, 0, none⟩ = some x0 ∧ w.cell? ⟨k, 1, none⟩ = some x1 := ⟨h.cell 0, h.cell 1⟩
/-- What holds of the batches. -/
structure BaV (vss : List (List PV)) (cur : List PV) (n : Nat) : Prop where
  w : okW 0 vss
  c : okB vss.length n 0 cur
  l : cur.length < n
set_option maxHeartbeats 16000000 in
theorem batches15 (A : Option Addr) (m cp : Nat) (data : List UInt8) (k0 k1 k2 : Int) (w : World) (sp : SpanAt w) (hd : By w w.heap.size A m data) (hm : m ≤ 9223372036854775807) :
    Calls Tryd.prog 8 #[.slice A m cp, .agg #[.int .i64 k0, .int .i64 k1], .int .i64 k2] w fun r w' => r = .returned (.bool true) ∧ Below w.heap.size w w' := by
  have SP := hide sp
  have HD := hide hd
  obtain ⟨ep, hep, hep6⟩ := modU k0 65536 (by decide) (by decide)
  obtain ⟨ct, hct, hct6⟩ := modU k1 60000 (by decide) (by decide)
  obtain ⟨lf, hlf, hlf25⟩ := modU k2 25 (by decide) (by decide)
  have HB := hide (show ep < 65536 ∧ ct < 60000 ∧ lf < 25 by omega)
  clear sp hd hep6 hct6 hlf25
  go_enter Tryd.func8, Tryd.ntmps8
  go_upto_region 1 with fail
  obtain ⟨w0, hw⟩ : ∃ W, W = w.alloc (.cells #[.int .i64 k0, .int .i64 k1] 79) := ⟨_, rfl⟩
  have X4 : Hid (Blk w0 w.heap.size 79 #[.int .i64 k0, .int .i64 k1]) := hide (by rw [hw]; exact Blk.new _ _ _)
  have BW : Hid (Below w.heap.size w w0) := hide (by rw [hw]; exact (Below.refl _ _).alloc (Nat.le_refl _) _)
  rw [← hw]
  obtain ⟨g4, hg⟩ : ∃ g, g = w.heap.size := ⟨_, rfl⟩
  rw [← hg] at X4 ⊢
  clear hw hg
  go_wp2_with fail
  refine (awake15 w0 (SP.out.bel BW.out)).mono ?_
  rintro r w1 ⟨rfl, hb⟩
  replace X4 := hide (X4.out.below hb)
  replace BW := hide (BW.out.trans (hb.mono BW.out.size))
  clear hb
  go_upto_region 4 with fail
  obtain ⟨w2, hw⟩ : ∃ W, W = w1.alloc (.cells #[.int .i64 100, .int .i64 16, .int .i64 9] 73) := ⟨_, rfl⟩
  have ba := (show Below w1.heap.size w1 w2 by rw [hw]; exact (Below.refl _ _).alloc (Nat.le_refl _) _)
  have X7 : Hid (Blk w2 w1.heap.size 73 #[.int .i64 100, .int .i64 16, .int .i64 9]) := hide (by rw [hw]; exact Blk.new _ _ _)
  rw [← hw]
  obtain ⟨g7, hg⟩ : ∃ g, g = w1.heap.size := ⟨_, rfl⟩
  rw [← hg] at X7 ⊢
  replace X4 := hide (X4.out.below ba)
  replace BW := hide (BW.out.trans (ba.mono BW.out.size))
  replace SP := hide (SP.out.bel BW.out)
  replace HD := hide ((HD.out.below BW.out).more BW.out.size)
  clear hw hg ba
  go_wp2_with fail
  refine (ld_new w2 100 (by decide) (by decide)).mono ?_
  rintro r w3 ⟨d, rfl, hl⟩
  have L := hide hl
  clear hl
  replace X4 := hide (show Blk w3 g4 79 #[.int .i64 k0, .int .i64 k1] from X4.out.below L.out.bel)
  replace X7 := hide (show Blk w3 g7 73 #[.int .i64 100, .int .i64 16, .int .i64 9] from X7.out.below L.out.bel)
  have y0 := X4.out.cell 0
  have y1 := X4.out.cell 1
  simp only [List.getElem?_toArray, List.getElem?_cons_succ, List.getElem?_cons_zero] at y0 y1
  go_upto_region 7 with fail
  go_quiet (fail)
  rw [hep, hct]
  clear y0 y1 hep hct X4
  replace X7 := hide (X7.out.drewN nq)
  replace L := hide (L.out.drewN nq)
  generalize w3.drewN nq = w4 at *
  go_upto_region 9 with fail
  obtain ⟨w5, hw⟩ : ∃ W, W = w4.alloc (.cells #[.int .i64 19, .int .i64 (ct : Int)] 81) := ⟨_, rfl⟩
  have ba := (show Below w4.heap.size w4 w5 by rw [hw]; exact (Below.refl _ _).alloc (Nat.le_refl _) _)
  have X12 : Hid (Blk w5 w4.heap.size 81 #[.int .i64 19, .int .i64 (ct : Int)]) := hide (by rw [hw]; exact Blk.new _ _ _)
  rw [← hw]
  obtain ⟨g12, hg⟩ : ∃ g, g = w4.heap.size := ⟨_, rfl⟩
  rw [← hg] at X12 ⊢
  have G12 := hide (show w2.heap.size ≤ g12 by rw [hg]; exact L.out.sz)
  replace X7 := hide (X7.out.below ba)
  replace L := hide (L.out.below ba)
  clear hw hg ba
  have y0 := X12.out.cell 0
  have y1 := X12.out.cell 1
  simp only [List.getElem?_toArray, List.getElem?_cons_succ, List.getElem?_cons_zero] at y0 y1
  go_upto_region 11 with fail
  rw [hlf]
  go_upto_block 0 with fail
  clear y0 y1 hlf
  obtain ⟨w6, hw⟩ : ∃ W, W = w5.alloc (.cells #[.int .i64 19, .int .i64 (ct : Int)] 81) := ⟨_, rfl⟩
  have ba := (show Below w5.heap.size w5 w6 by rw [hw]; exact (Below.refl _ _).alloc (Nat.le_refl _) _)
  have X16 : Hid (Blk w6 w5.heap.size 81 #[.int .i64 19, .int .i64 (ct : Int)]) := hide (by rw [hw]; exact Blk.new _ _ _)
  rw [← hw]
  obtain ⟨g16, hg⟩ : ∃ g, g = w5.heap.size := ⟨_, rfl⟩
  have G16 := hide (show w2.heap.size ≤ g16 ∧ g12 ≠ g16 from ⟨by rw [hg]; exact L.out.sz, by have := X12.out.lt; omega⟩)
  rw [← hg] at X16 ⊢
  replace X7 := hide (X7.out.below ba)
  replace X12 := hide (X12.out.below ba)
  replace L := hide (L.out.below ba)
  clear hw hg ba
  have RI0 : Hid (BaI w2 w6 d g7 g12 g16 ep ct (freshD 100) [] 0 0) := hide ⟨L.out, fresh_l _, rfl, fresh_len _, rfl, Nat.zero_le _, bch_fresh _ _, Nat.zero_le _, X7.out, X12.out, X16.out⟩
  clear L X7 X12 X16
  go_upto_block 0 with fail
  go_cut [14] (fun y wx => ∃ (vss : List (List PV)) (cur : List PV) (n t : Nat) (D : Dsk), y = .int .i64 (vss.length : Int) ∧ BaV vss cur n ∧ BaI w2 wx d g7 g12 g16 ep ct D (vss.flatten ++ cur) t vss.flatten.length)
  case first =>
    go_wp2_with fail
    go_loopw [14, 15, 17] (fun x y z wr => ∃ (i lf t n : Nat) (vss : List (List PV)) (cur : List PV) (D : Dsk), x = .int .i64 (vss.length : Int) ∧ y = .int .i64 (lf : Int) ∧ z = .int .i64 (i : Int) ∧ i ≤ 6 ∧ lf ≤ 24 ∧ (0 < lf → cur = [] ∧ vss.length = i) ∧ BaV vss cur n ∧ BaI w2 wr d g7 g12 g16 ep ct D (vss.flatten ++ cur) t vss.flatten.length) (fun _ _ z _ => 6 - (intOf z).toNat)
    case atStart => exact ⟨0, lf, 0, 1, [], [], freshD 100, rfl, rfl, rfl, by omega, by have := HB.out; omega, fun _ => ⟨rfl, rfl⟩, ⟨trivial, trivial, Nat.one_pos⟩, RI0.out⟩
    case round =>
      clear RI0
      obtain ⟨i, lf, t, n0, vss, cur, D, rfl, rfl, rfl, hi6, hl24, hlc, hbv, hri⟩ := hrel
      have RI := hide hri
      have BV := hide hbv
      have HLC := hide hlc
      clear hri hbv hlc
      by_cases hlt : i < m ∧ i < 6 ∧ 0 < lf
      rotate_left
      · rcases (show ¬ i < m ∨ (i < m ∧ ¬ i < 6) ∨ (i < m ∧ i < 6 ∧ ¬ 0 < lf) by omega) with h | ⟨h, h'⟩ | ⟨h, h', h''⟩
        · have h1 : ¬ (i : Int) < (m : Int) := by omega
          clear h hlt
          go_wp2_with fail
          go_meet
          exact ⟨vss, cur, n0, t, D, rfl, BV.out, RI.out⟩
        · have h1 : (i : Int) < (m : Int) := by omega
          have h2 : ¬ (i : Int) < 6 := by omega
          clear h h' hlt
          go_wp2_with fail
          go_meet
          exact ⟨vss, cur, n0, t, D, rfl, BV.out, RI.out⟩
        · have h1 : (i : Int) < (m : Int) := by omega
          have h2 : (i : Int) < 6 := by omega
          clear h h' hlt
          go_wp2_with fail
          go_meet
          exact ⟨vss, cur, n0, t, D, rfl, BV.out, RI.out⟩
      obtain ⟨hlt, hlt2, hlt3⟩ := hlt
      obtain ⟨rfl, hvi⟩ := HLC.out hlt3
      have HVI := hide hvi
      clear HLC hvi
      have h1 : (i : Int) < (m : Int) := by omega
      have h2 : (i : Int) < 6 := by omega
      have HDW := hide ((HD.out).below RI.out.ld.bel)
      obtain ⟨hl8, ad, hA, h0⟩ := By.get HDW.out hlt
      obtain ⟨un, hun⟩ : ∃ x : Nat, x = data[i].toNat := ⟨_, rfl⟩
      have hu8 : un < 256 := by rw [hun]; exact (data[i]).toNat_lt
      rw [← hun] at h0
      clear hun HDW
      obtain ⟨qm, hq⟩ : ∃ q, q = un % 4 := ⟨_, rfl⟩
      have hmod : (un : Int).tmod 4 = (qm : Int) := by rw [Int.tmod_eq_emod_of_nonneg (by omega)]; omega
      have hq4 : qm < 4 := by omega
      obtain ⟨n, hn⟩ : ∃ n, n = qm + 1 := ⟨_, rfl⟩
      have hn1 : IntKind.i64.wrap ((qm : Int) + 1) = (n : Int) := by rw [IntKind.wrap_i64]; omega
      have HNQ := hide (show 1 ≤ n ∧ n ≤ 4 by omega)
      clear hq hn
      obtain ⟨p, hp⟩ : ∃ p, p = pl t := ⟨_, rfl⟩
      have HP := hide hp
      obtain ⟨s1, hs⟩ : ∃ s, s = ct + t := ⟨_, rfl⟩
      have HS1 := hide hs
      have ht24 := RI.out.le
      have hx12 := RI.out.x12
      rw [← hp, ← hs] at hx12
      have y1 := hx12.cell 1
      simp only [List.getElem?_toArray, List.getElem?_cons_succ, List.getElem?_cons_zero] at y1
      have hd1 : IntKind.i64.wrap ((s1 : Int) - (ct : Int)) = (t : Int) := by rw [IntKind.wrap_i64]; omega
      obtain ⟨t2, ht2⟩ : ∃ x, x = t + n := ⟨_, rfl⟩
      have hd2 : IntKind.i64.wrap ((t : Int) + (n : Int)) = (t2 : Int) := by have := HNQ.out; rw [IntKind.wrap_i64]; omega
      have HT2 := hide ht2
      clear hp hs ht2 hx12
      by_cases hbr : (24 : Int) < (t2 : Int)
      · subst hA
        go_wp2_with fail
        go_meet
        exact ⟨vss, [], n0, t, D, rfl, BV.out, RI.out⟩
      subst hA
      go_upto_block 2 with fail
      have HTN := hide (show vss.flatten.length + n ≤ 24 from by have := RI.out.len; have := HT2.out; simp at *; omega)
      clear hlt hlt3 h0 y1 hd1 hd2 hmod hn1 hu8 hq4 h1 h2 hbr
      go_wp2_with fail
      have T0 := hide (show t = vss.flatten.length from by have := RI.out.len; simpa using this.symm)
      obtain ⟨wo, rfl⟩ : ∃ wo : World, wo = wr := ⟨_, rfl⟩
      have BVW := hide BV.out.w
      go_loopw [14, 15, 19] (fun x y z wr => ∃ (k lf t' wh tw : Nat) (cur : List PV) (D : Dsk), x = .int .i64 (wh : Int) ∧ y = .int .i64 (lf : Int) ∧ z = .int .i64 (k : Int) ∧ k ≤ n ∧ lf ≤ 24 ∧ cur.length = k ∧ okB vss.length n 0 cur ∧ (k < n → wh = vss.length ∧ tw = vss.flatten.length) ∧ (k = n → wh = vss.length + 1 ∧ tw = vss.flatten.length + n) ∧ t' = vss.flatten.length + k ∧ BaI w2 wr d g7 g12 g16 ep ct D (vss.flatten ++ cur) t' tw) (fun _ _ z _ => n - (intOf z).toNat)
      case atStart => exact ⟨0, lf, t, vss.length, vss.flatten.length, [], D, rfl, rfl, rfl, Nat.zero_le _, hl24, rfl, trivial, fun _ => ⟨rfl, rfl⟩, fun h => by have := HNQ.out; omega, by rw [T0.out]; rfl, RI.out⟩
      case round =>
        clear RI BV T0 HP HS1 HT2
        obtain ⟨k, lf, t', wh, tw, cur, D, rfl, rfl, rfl, hkn, hl24, hcl, hok, hw1, hw2, ht', hri⟩ := hrel
        have RI := hide hri
        have HCL := hide hcl
        have HOK := hide hok
        have HW1 := hide hw1
        have HW2 := hide hw2
        have HT := hide ht'
        clear hri hcl hok hw1 hw2 ht'
        by_cases hk : k < n
        rotate_left
        · have hk' : ¬ (k : Int) < (n : Int) := by omega
          obtain ⟨rfl, e2⟩ := HW2.out (by omega)
          have E2 := hide e2
          clear e2
          have hi1 : IntKind.i64.wrap ((i : Int) + 1) = (i : Int) + 1 := by rw [IntKind.wrap_i64]; omega
          go_wp2_with fail
          go_roundw
          case measure => simp [intOf]; omega
          case rel =>
          refine ⟨i + 1, lf, t', 1, vss ++ [cur], [], D, by simp, rfl, by go_num, by omega, hl24, fun _ => ⟨rfl, by rw [List.length_append, HVI.out]; rfl⟩, ⟨okW_snoc 0 vss cur BVW.out ?_ ?_, trivial, Nat.one_pos⟩, ?_⟩
          · rintro rfl
            have := HCL.out
            have := HNQ.out
            simp at *
            omega
          · rw [Nat.zero_add, HCL.out]
            have : k = n := by omega
            rw [this]
            exact HOK.out
          · have := RI.out
            rw [E2.out] at this
            simpa [HCL.out, show k = n by omega] using this
        have hk' : (k : Int) < (n : Int) := by omega
        obtain ⟨e1, e2⟩ := HW1.out hk
        subst e1 e2
        by_cases hl : 0 < lf
        rotate_left
        · have hi1 : IntKind.i64.wrap ((i : Int) + 1) = (i : Int) + 1 := by rw [IntKind.wrap_i64]; omega
          go_wp2_with fail
          go_roundw
          case rel => exact ⟨i + 1, lf, t', n, vss, cur, D, rfl, rfl, by go_num, by omega, hl24, fun h => absurd h hl, ⟨BVW.out, HOK.out, by rw [HCL.out]; exact hk⟩, RI.out⟩
          case measure => simp [intOf]; omega
        have ht23 : t' ≤ 23 := by have := HTN.out; have := HT.out; omega
        obtain ⟨p, hp⟩ : ∃ p, p = pl t' := ⟨_, rfl⟩
        obtain ⟨q, hq⟩ : ∃ q, q = pl (t' + 1) := ⟨_, rfl⟩
        obtain ⟨s1, hs⟩ : ∃ s, s = ct + t' := ⟨_, rfl⟩
        obtain ⟨i1, hi1⟩ : ∃ x, x = i + 1 := ⟨_, rfl⟩
        have hpb := pl_bd (show t' ≤ 24 by omega)
        have hqb := pl_bd (show t' + 1 ≤ 24 by omega)
        have hx12 := RI.out.x12
        rw [← hp] at hx12 hpb
        rw [← hq] at hqb
        rw [← hs] at hx12
        have X12 := hide hx12
        have HL := hide (And.intro hp (And.intro hq (And.intro hs hi1)))
        have hw1 : IntKind.i64.wrap ((i : Int) + 1) = (i1 : Int) := by rw [IntKind.wrap_i64]; omega
        have HPB := hide (And.intro hpb hqb)
        have NX := hide (show ∀ W, Below wr.heap.size wr W → Calls Tryd.prog 30 #[.agg #[.int .i64 (p : Int), .int .i64 (s1 : Int)], .pointer (some ⟨g7, 0, none⟩)] W fun r w' => r = .returned (.agg #[.int .i64 (q : Int), .int .i64 ((s1 : Int) + 1)]) ∧ Below W.heap.size W w' from fun W hb => by
          rw [HL.out.1, HL.out.2.1]
          exact plnext_any W g7 (RI.out.x7.below hb) t' ht23 (s1 : Int) (by have := HL.out.2.2.1; have := HB.out; omega))
        clear hp hq hs hi1 hx12 hpb hqb
        go_upto_region 20 with fail
        go_cut [20] (fun y wx => ∃ g20 gI, y = .pointer (some ⟨g20, 0, none⟩) ∧ Blk wx g20 25 #[.int .i64 (ep : Int), .int .i64 (s1 : Int), .int .i64 (k : Int), .int .i64 (n : Int), .int .i64 (q : Int), .slice none 0 0, .slice (some ⟨gI, 0, none⟩) 1 1] ∧ Blk wx gI 3 (intC [(i1 : Int)]).toArray ∧ wr.heap.size ≤ g20 ∧ wr.heap.size ≤ gI ∧ Below wr.heap.size wr wx)
        case first =>
          have hcc := op2S X12.out
          refine wp_region_noPanic ?_
          refine wp_region_held_drew (S := (fun w' => w'.cell? ⟨g12, 0, none⟩ = some (.int .i64 (p : Int)) ∧ w'.cell? ⟨g12, 1, none⟩ = some (.int .i64 (s1 : Int)))) (by kernel_rfl) ?_ (fun hHeld => ?_)
          · ((try dsimp only) <;> (first | trivial | assumption | go_keep))
          clear hcc
          replace X12 := hide X12.out.drew
          have BE := hide (Below.refl wr.heap.size wr).drew
          generalize wr.drew = wd at *
          refine tk 0 ?_
          refine tk 1 ?_
          refine tk 2 ?_
          refine tk 3 ?_
          refine tk 4 ?_
          refine tk 5 ?_
          refine tk 6 ?_
          refine tk 9 ?_
          refine tk 10 ?_
          refine wpAnyH_ready (rs := [7, 11, 13]) (by kernel_rfl) (by simp) ?_
          refine AllReadyH.cons (by simp only [List.getElem?_toArray, List.getElem?_cons_succ, List.getElem?_cons_zero]; rfl) (fun K hK => ?_) ?_
          rotate_left 1
          refine AllReadyH.cons (by simp only [List.getElem?_toArray, List.getElem?_cons_succ, List.getElem?_cons_zero]; rfl) (fun K hK => ?_) ?_
          rotate_left 1
          refine AllReadyH.cons (by simp only [List.getElem?_toArray, List.getElem?_cons_succ, List.getElem?_cons_zero]; rfl) (fun K hK => ?_) ?_
          rotate_left 1
          exact AllReadyH.nil
          focus
            have NX2 := NX.out _ BE.out
            have hfl : ∀ W : World, (Instr.field 81 (.agg #[.int .i64 (q : Int), .int .i64 ((s1 : Int) + 1)]) 0).run Tryd.prog W = .ok (.int .i64 (q : Int)) W := fun W => by kernel_rfl
            go_simp
            refine NX2.mono ?_; rintro r w20 ⟨rfl, hb⟩; replace BE := hide (BE.out.trans (hb.mono BE.out.size)); replace X12 := hide (X12.out.below hb); have hcc := op2S X12.out; clear hb
            refine hK.out _ _ ?_ (fun hHeld2 => ?_)
            · ((try dsimp only) <;> (first | trivial | assumption | go_keep))
            clear hHeld
            have hHeld := hHeld2
            clear hHeld2 hK K
            try simp only [Act.put, List.setIfInBounds_toArray, List.set_cons_zero, List.set_cons_succ]
            clear hHeld NX2
            have hHeld := hcc
            clear hcc
            refine tk 8 ?_
            clear hfl
            refine wpAnyH_ready (rs := [11, 13]) (by kernel_rfl) (by simp) ?_
            refine AllReadyH.cons (by simp only [List.getElem?_toArray, List.getElem?_cons_succ, List.getElem?_cons_zero]; rfl) (fun K hK => ?_) ?_
            rotate_left 1
            refine AllReadyH.cons (by simp only [List.getElem?_toArray, List.getElem?_cons_succ, List.getElem?_cons_zero]; rfl) (fun K hK => ?_) ?_
            rotate_left 1
            exact AllReadyH.nil
            focus
              go_simp
              refine hK.out _ _ ?_ (fun hHeld2 => ?_)
              · ((try dsimp only) <;> (first | trivial | assumption | go_keep))
              clear hHeld
              have hHeld := hHeld2
              clear hHeld2 hK K
              try simp only [Act.put, List.setIfInBounds_toArray, List.set_cons_zero, List.set_cons_succ]
              obtain ⟨w21, hw⟩ : ∃ W, W = w20.alloc (.cells #[.int .i64 (i1 : Int)] 3) := ⟨_, rfl⟩
              have hb := (show Below w20.heap.size w20 w21 by rw [hw]; exact (Below.refl _ _).alloc (Nat.le_refl _) _)
              have hX := (show Blk w21 w20.heap.size 3 (intC [(i1 : Int)]).toArray by rw [hw]; exact Blk.new _ _ _)
              rw [← hw]
              clear hw hHeld
              obtain ⟨gI, hg⟩ : ∃ g, g = w20.heap.size := ⟨_, rfl⟩
              have GI := hide (show wr.heap.size ≤ gI by rw [hg]; exact BE.out.size)
              rw [← hg] at hX ⊢
              have XI := hide hX
              replace BE := hide (BE.out.trans (hb.mono BE.out.size))
              replace X12 := hide (X12.out.below hb)
              skip
              skip
              have hHeld := op2S X12.out
              clear hb hX hg
              refine tk 12 ?_
              refine wpAnyH_ready (rs := [13]) (by kernel_rfl) (by simp) ?_
              refine AllReadyH.cons (by simp only [List.getElem?_toArray, List.getElem?_cons_succ, List.getElem?_cons_zero]; rfl) (fun K hK => ?_) ?_
              rotate_left 1
              · exact AllReadyH.nil
              go_simp
              refine hK.out _ _ ?_ (fun hHeld2 => ?_)
              · ((try dsimp only) <;> (first | trivial | assumption | go_keep))
              clear hHeld
              have hHeld := hHeld2
              clear hHeld2 hK K
              try simp only [Act.put, List.setIfInBounds_toArray, List.set_cons_zero, List.set_cons_succ]
              obtain ⟨w22, hw⟩ : ∃ W, W = w21.alloc (.cells #[.int .i64 0, .int .i64 0, .int .i64 0, .int .i64 0, .int .i64 0, .slice none 0 0, .slice none 0 0] 25) := ⟨_, rfl⟩
              have hb := (show Below w21.heap.size w21 w22 by rw [hw]; exact (Below.refl _ _).alloc (Nat.le_refl _) _)
              have hX := (show Blk w22 w21.heap.size 25 #[.int .i64 0, .int .i64 0, .int .i64 0, .int .i64 0, .int .i64 0, .slice none 0 0, .slice none 0 0] by rw [hw]; exact Blk.new _ _ _)
              rw [← hw]
              clear hw hHeld
              obtain ⟨g20, hg⟩ : ∃ g, g = w21.heap.size := ⟨_, rfl⟩
              have G20 := hide (show wr.heap.size ≤ g20 by rw [hg]; exact BE.out.size)
              rw [← hg] at hX ⊢
              have X20 := hide hX
              replace BE := hide (BE.out.trans (hb.mono BE.out.size))
              replace X12 := hide (X12.out.below hb)
              replace XI := hide (XI.out.below hb)
              skip
              have hHeld := op2S X12.out
              clear hb hX hg
              have GN := hide (show gI ≠ g20 from fun e => by subst e; exact absurd (Blk.type XI.out X20.out).1 (by decide))
              obtain ⟨y0, y1, y2, y3, y4, y5, y6⟩ := op7 X20.out
              have z := X20.out.frozen
              refine wpAnyH_ready (rs := [14]) (by kernel_rfl) (by simp) ?_
              refine AllReadyH.cons (by simp only [List.getElem?_toArray, List.getElem?_cons_succ, List.getElem?_cons_zero]; rfl) (fun K hK => ?_) ?_
              rotate_left 1
              · exact AllReadyH.nil
              go_simp
              obtain ⟨W, eW, S1, S2⟩ := set7x X20.out (.int .i64 (ep : Int)) (.int .i64 (s1 : Int)) (.int .i64 (k : Int)) (.int .i64 (n : Int)) (.int .i64 (q : Int)) (.slice none 0 0) (.slice (some ⟨gI, 0, none⟩) 1 1); have BS := hide (Below.kp2 BE.out S2 BE.out.size (by simpa using G20.out)); have hcc := op2S (X12.out.kp S2 (by intro e; have e := List.mem_singleton.1 e; subst e; exact absurd (Blk.type X12.out X20.out).1 (by decide))); rw [eW]; clear eW
              refine hK.out _ _ ?_ (fun hHeld2 => ?_)
              · ((try dsimp only) <;> (first | trivial | assumption | go_keep))
              clear hHeld
              have hHeld := hHeld2
              clear hHeld2 hK K
              try simp only [Act.put, List.setIfInBounds_toArray, List.set_cons_zero, List.set_cons_succ]
              clear y0 y1 y2 y3 y4 y5 y6 z hcc
              refine wpAnyH_done (by kernel_rfl) ?_ _
              refine NoPanic.normal ?_
              clear hHeld
              go_wp2_with fail
              go_meet
              exact ⟨g20, gI, rfl, S1, XI.out.kp S2 (by simpa using GN.out), G20.out, GI.out, BS.out⟩
            focus
              go_simp
              refine hK.out _ _ ?_ (fun hHeld2 => ?_)
              · ((try dsimp only) <;> (first | trivial | assumption | go_keep))
              clear hHeld
              have hHeld := hHeld2
              clear hHeld2 hK K
              try simp only [Act.put, List.setIfInBounds_toArray, List.set_cons_zero, List.set_cons_succ]
              obtain ⟨w21, hw⟩ : ∃ W, W = w20.alloc (.cells #[.int .i64 0, .int .i64 0, .int .i64 0, .int .i64 0, .int .i64 0, .slice none 0 0, .slice none 0 0] 25) := ⟨_, rfl⟩
              have hb := (show Below w20.heap.size w20 w21 by rw [hw]; exact (Below.refl _ _).alloc (Nat.le_refl _) _)
              have hX := (show Blk w21 w20.heap.size 25 #[.int .i64 0, .int .i64 0, .int .i64 0, .int .i64 0, .int .i64 0, .slice none 0 0, .slice none 0 0] by rw [hw]; exact Blk.new _ _ _)
              rw [← hw]
              clear hw hHeld
              obtain ⟨g20, hg⟩ : ∃ g, g = w20.heap.size := ⟨_, rfl⟩
              have G20 := hide (show wr.heap.size ≤ g20 by rw [hg]; exact BE.out.size)
              rw [← hg] at hX ⊢
              have X20 := hide hX
              replace BE := hide (BE.out.trans (hb.mono BE.out.size))
              replace X12 := hide (X12.out.below hb)
              skip
              skip
              have hHeld := op2S X12.out
              clear hb hX hg
              refine wpAnyH_ready (rs := [11]) (by kernel_rfl) (by simp) ?_
              refine AllReadyH.cons (by simp only [List.getElem?_toArray, List.getElem?_cons_succ, List.getElem?_cons_zero]; rfl) (fun K hK => ?_) ?_
              rotate_left 1
              · exact AllReadyH.nil
              go_simp
              refine hK.out _ _ ?_ (fun hHeld2 => ?_)
              · ((try dsimp only) <;> (first | trivial | assumption | go_keep))
              clear hHeld
              have hHeld := hHeld2
              clear hHeld2 hK K
              try simp only [Act.put, List.setIfInBounds_toArray, List.set_cons_zero, List.set_cons_succ]
              obtain ⟨w22, hw⟩ : ∃ W, W = w21.alloc (.cells #[.int .i64 (i1 : Int)] 3) := ⟨_, rfl⟩
              have hb := (show Below w21.heap.size w21 w22 by rw [hw]; exact (Below.refl _ _).alloc (Nat.le_refl _) _)
              have hX := (show Blk w22 w21.heap.size 3 (intC [(i1 : Int)]).toArray by rw [hw]; exact Blk.new _ _ _)
              rw [← hw]
              clear hw hHeld
              obtain ⟨gI, hg⟩ : ∃ g, g = w21.heap.size := ⟨_, rfl⟩
              have GI := hide (show wr.heap.size ≤ gI by rw [hg]; exact BE.out.size)
              rw [← hg] at hX ⊢
              have XI := hide hX
              replace BE := hide (BE.out.trans (hb.mono BE.out.size))
              replace X12 := hide (X12.out.below hb)
              skip
              replace X20 := hide (X20.out.below hb)
              have hHeld := op2S X12.out
              clear hb hX hg
              refine tk 12 ?_
              have GN := hide (show gI ≠ g20 from fun e => by subst e; exact absurd (Blk.type XI.out X20.out).1 (by decide))
              obtain ⟨y0, y1, y2, y3, y4, y5, y6⟩ := op7 X20.out
              have z := X20.out.frozen
              refine wpAnyH_ready (rs := [14]) (by kernel_rfl) (by simp) ?_
              refine AllReadyH.cons (by simp only [List.getElem?_toArray, List.getElem?_cons_succ, List.getElem?_cons_zero]; rfl) (fun K hK => ?_) ?_
              rotate_left 1
              · exact AllReadyH.nil
              go_simp
              obtain ⟨W, eW, S1, S2⟩ := set7x X20.out (.int .i64 (ep : Int)) (.int .i64 (s1 : Int)) (.int .i64 (k : Int)) (.int .i64 (n : Int)) (.int .i64 (q : Int)) (.slice none 0 0) (.slice (some ⟨gI, 0, none⟩) 1 1); have BS := hide (Below.kp2 BE.out S2 BE.out.size (by simpa using G20.out)); have hcc := op2S (X12.out.kp S2 (by intro e; have e := List.mem_singleton.1 e; subst e; exact absurd (Blk.type X12.out X20.out).1 (by decide))); rw [eW]; clear eW
              refine hK.out _ _ ?_ (fun hHeld2 => ?_)
              · ((try dsimp only) <;> (first | trivial | assumption | go_keep))
              clear hHeld
              have hHeld := hHeld2
              clear hHeld2 hK K
              try simp only [Act.put, List.setIfInBounds_toArray, List.set_cons_zero, List.set_cons_succ]
              clear y0 y1 y2 y3 y4 y5 y6 z hcc
              refine wpAnyH_done (by kernel_rfl) ?_ _
              refine NoPanic.normal ?_
              clear hHeld
              go_wp2_with fail
              go_meet
              exact ⟨g20, gI, rfl, S1, XI.out.kp S2 (by simpa using GN.out), G20.out, GI.out, BS.out⟩
          focus
            go_simp
            refine hK.out _ _ ?_ (fun hHeld2 => ?_)
            · ((try dsimp only) <;> (first | trivial | assumption | go_keep))
            clear hHeld
            have hHeld := hHeld2
            clear hHeld2 hK K
            try simp only [Act.put, List.setIfInBounds_toArray, List.set_cons_zero, List.set_cons_succ]
            obtain ⟨w20, hw⟩ : ∃ W, W = wd.alloc (.cells #[.int .i64 (i1 : Int)] 3) := ⟨_, rfl⟩
            have hb := (show Below wd.heap.size wd w20 by rw [hw]; exact (Below.refl _ _).alloc (Nat.le_refl _) _)
            have hX := (show Blk w20 wd.heap.size 3 (intC [(i1 : Int)]).toArray by rw [hw]; exact Blk.new _ _ _)
            rw [← hw]
            clear hw hHeld
            obtain ⟨gI, hg⟩ : ∃ g, g = wd.heap.size := ⟨_, rfl⟩
            have GI := hide (show wr.heap.size ≤ gI by rw [hg]; exact BE.out.size)
            rw [← hg] at hX ⊢
            have XI := hide hX
            replace BE := hide (BE.out.trans (hb.mono BE.out.size))
            replace X12 := hide (X12.out.below hb)
            skip
            skip
            have hHeld := op2S X12.out
            clear hb hX hg
            refine wpAnyH_ready (rs := [7, 13]) (by kernel_rfl) (by simp) ?_
            refine AllReadyH.cons (by simp only [List.getElem?_toArray, List.getElem?_cons_succ, List.getElem?_cons_zero]; rfl) (fun K hK => ?_) ?_
            rotate_left 1
            refine AllReadyH.cons (by simp only [List.getElem?_toArray, List.getElem?_cons_succ, List.getElem?_cons_zero]; rfl) (fun K hK => ?_) ?_
            rotate_left 1
            exact AllReadyH.nil
            focus
              have NX2 := NX.out _ BE.out
              have hfl : ∀ W : World, (Instr.field 81 (.agg #[.int .i64 (q : Int), .int .i64 ((s1 : Int) + 1)]) 0).run Tryd.prog W = .ok (.int .i64 (q : Int)) W := fun W => by kernel_rfl
              go_simp
              refine NX2.mono ?_; rintro r w21 ⟨rfl, hb⟩; replace BE := hide (BE.out.trans (hb.mono BE.out.size)); replace X12 := hide (X12.out.below hb); replace XI := hide (XI.out.below hb); have hcc := op2S X12.out; clear hb
              refine hK.out _ _ ?_ (fun hHeld2 => ?_)
              · ((try dsimp only) <;> (first | trivial | assumption | go_keep))
              clear hHeld
              have hHeld := hHeld2
              clear hHeld2 hK K
              try simp only [Act.put, List.setIfInBounds_toArray, List.set_cons_zero, List.set_cons_succ]
              clear hHeld NX2
              have hHeld := hcc
              clear hcc
              refine tk 8 ?_
              clear hfl
              refine tk 12 ?_
              refine wpAnyH_ready (rs := [13]) (by kernel_rfl) (by simp) ?_
              refine AllReadyH.cons (by simp only [List.getElem?_toArray, List.getElem?_cons_succ, List.getElem?_cons_zero]; rfl) (fun K hK => ?_) ?_
              rotate_left 1
              · exact AllReadyH.nil
              go_simp
              refine hK.out _ _ ?_ (fun hHeld2 => ?_)
              · ((try dsimp only) <;> (first | trivial | assumption | go_keep))
              clear hHeld
              have hHeld := hHeld2
              clear hHeld2 hK K
              try simp only [Act.put, List.setIfInBounds_toArray, List.set_cons_zero, List.set_cons_succ]
              obtain ⟨w22, hw⟩ : ∃ W, W = w21.alloc (.cells #[.int .i64 0, .int .i64 0, .int .i64 0, .int .i64 0, .int .i64 0, .slice none 0 0, .slice none 0 0] 25) := ⟨_, rfl⟩
              have hb := (show Below w21.heap.size w21 w22 by rw [hw]; exact (Below.refl _ _).alloc (Nat.le_refl _) _)
              have hX := (show Blk w22 w21.heap.size 25 #[.int .i64 0, .int .i64 0, .int .i64 0, .int .i64 0, .int .i64 0, .slice none 0 0, .slice none 0 0] by rw [hw]; exact Blk.new _ _ _)
              rw [← hw]
              clear hw hHeld
              obtain ⟨g20, hg⟩ : ∃ g, g = w21.heap.size := ⟨_, rfl⟩
              have G20 := hide (show wr.heap.size ≤ g20 by rw [hg]; exact BE.out.size)
              rw [← hg] at hX ⊢
              have X20 := hide hX
              replace BE := hide (BE.out.trans (hb.mono BE.out.size))
              replace X12 := hide (X12.out.below hb)
              replace XI := hide (XI.out.below hb)
              skip
              have hHeld := op2S X12.out
              clear hb hX hg
              have GN := hide (show gI ≠ g20 from fun e => by subst e; exact absurd (Blk.type XI.out X20.out).1 (by decide))
              obtain ⟨y0, y1, y2, y3, y4, y5, y6⟩ := op7 X20.out
              have z := X20.out.frozen
              refine wpAnyH_ready (rs := [14]) (by kernel_rfl) (by simp) ?_
              refine AllReadyH.cons (by simp only [List.getElem?_toArray, List.getElem?_cons_succ, List.getElem?_cons_zero]; rfl) (fun K hK => ?_) ?_
              rotate_left 1
              · exact AllReadyH.nil
              go_simp
              obtain ⟨W, eW, S1, S2⟩ := set7x X20.out (.int .i64 (ep : Int)) (.int .i64 (s1 : Int)) (.int .i64 (k : Int)) (.int .i64 (n : Int)) (.int .i64 (q : Int)) (.slice none 0 0) (.slice (some ⟨gI, 0, none⟩) 1 1); have BS := hide (Below.kp2 BE.out S2 BE.out.size (by simpa using G20.out)); have hcc := op2S (X12.out.kp S2 (by intro e; have e := List.mem_singleton.1 e; subst e; exact absurd (Blk.type X12.out X20.out).1 (by decide))); rw [eW]; clear eW
              refine hK.out _ _ ?_ (fun hHeld2 => ?_)
              · ((try dsimp only) <;> (first | trivial | assumption | go_keep))
              clear hHeld
              have hHeld := hHeld2
              clear hHeld2 hK K
              try simp only [Act.put, List.setIfInBounds_toArray, List.set_cons_zero, List.set_cons_succ]
              clear y0 y1 y2 y3 y4 y5 y6 z hcc
              refine wpAnyH_done (by kernel_rfl) ?_ _
              refine NoPanic.normal ?_
              clear hHeld
              go_wp2_with fail
              go_meet
              exact ⟨g20, gI, rfl, S1, XI.out.kp S2 (by simpa using GN.out), G20.out, GI.out, BS.out⟩
            focus
              go_simp
              refine hK.out _ _ ?_ (fun hHeld2 => ?_)
              · ((try dsimp only) <;> (first | trivial | assumption | go_keep))
              clear hHeld
              have hHeld := hHeld2
              clear hHeld2 hK K
              try simp only [Act.put, List.setIfInBounds_toArray, List.set_cons_zero, List.set_cons_succ]
              obtain ⟨w21, hw⟩ : ∃ W, W = w20.alloc (.cells #[.int .i64 0, .int .i64 0, .int .i64 0, .int .i64 0, .int .i64 0, .slice none 0 0, .slice none 0 0] 25) := ⟨_, rfl⟩
              have hb := (show Below w20.heap.size w20 w21 by rw [hw]; exact (Below.refl _ _).alloc (Nat.le_refl _) _)
              have hX := (show Blk w21 w20.heap.size 25 #[.int .i64 0, .int .i64 0, .int .i64 0, .int .i64 0, .int .i64 0, .slice none 0 0, .slice none 0 0] by rw [hw]; exact Blk.new _ _ _)
              rw [← hw]
              clear hw hHeld
              obtain ⟨g20, hg⟩ : ∃ g, g = w20.heap.size := ⟨_, rfl⟩
              have G20 := hide (show wr.heap.size ≤ g20 by rw [hg]; exact BE.out.size)
              rw [← hg] at hX ⊢
              have X20 := hide hX
              replace BE := hide (BE.out.trans (hb.mono BE.out.size))
              replace X12 := hide (X12.out.below hb)
              replace XI := hide (XI.out.below hb)
              skip
              have hHeld := op2S X12.out
              clear hb hX hg
              have NX2 := NX.out _ BE.out
              have hfl : ∀ W : World, (Instr.field 81 (.agg #[.int .i64 (q : Int), .int .i64 ((s1 : Int) + 1)]) 0).run Tryd.prog W = .ok (.int .i64 (q : Int)) W := fun W => by kernel_rfl
              refine wpAnyH_ready (rs := [7]) (by kernel_rfl) (by simp) ?_
              refine AllReadyH.cons (by simp only [List.getElem?_toArray, List.getElem?_cons_succ, List.getElem?_cons_zero]; rfl) (fun K hK => ?_) ?_
              rotate_left 1
              · exact AllReadyH.nil
              go_simp
              refine NX2.mono ?_; rintro r w22 ⟨rfl, hb⟩; replace BE := hide (BE.out.trans (hb.mono BE.out.size)); replace X12 := hide (X12.out.below hb); replace XI := hide (XI.out.below hb); replace X20 := hide (X20.out.below hb); have hcc := op2S X12.out; clear hb
              refine hK.out _ _ ?_ (fun hHeld2 => ?_)
              · ((try dsimp only) <;> (first | trivial | assumption | go_keep))
              clear hHeld
              have hHeld := hHeld2
              clear hHeld2 hK K
              try simp only [Act.put, List.setIfInBounds_toArray, List.set_cons_zero, List.set_cons_succ]
              clear hHeld NX2
              have hHeld := hcc
              clear hcc
              refine tk 8 ?_
              clear hfl
              refine tk 12 ?_
              have GN := hide (show gI ≠ g20 from fun e => by subst e; exact absurd (Blk.type XI.out X20.out).1 (by decide))
              obtain ⟨y0, y1, y2, y3, y4, y5, y6⟩ := op7 X20.out
              have z := X20.out.frozen
              refine wpAnyH_ready (rs := [14]) (by kernel_rfl) (by simp) ?_
              refine AllReadyH.cons (by simp only [List.getElem?_toArray, List.getElem?_cons_succ, List.getElem?_cons_zero]; rfl) (fun K hK => ?_) ?_
              rotate_left 1
              · exact AllReadyH.nil
              go_simp
              obtain ⟨W, eW, S1, S2⟩ := set7x X20.out (.int .i64 (ep : Int)) (.int .i64 (s1 : Int)) (.int .i64 (k : Int)) (.int .i64 (n : Int)) (.int .i64 (q : Int)) (.slice none 0 0) (.slice (some ⟨gI, 0, none⟩) 1 1); have BS := hide (Below.kp2 BE.out S2 BE.out.size (by simpa using G20.out)); have hcc := op2S (X12.out.kp S2 (by intro e; have e := List.mem_singleton.1 e; subst e; exact absurd (Blk.type X12.out X20.out).1 (by decide))); rw [eW]; clear eW
              refine hK.out _ _ ?_ (fun hHeld2 => ?_)
              · ((try dsimp only) <;> (first | trivial | assumption | go_keep))
              clear hHeld
              have hHeld := hHeld2
              clear hHeld2 hK K
              try simp only [Act.put, List.setIfInBounds_toArray, List.set_cons_zero, List.set_cons_succ]
              clear y0 y1 y2 y3 y4 y5 y6 z hcc
              refine wpAnyH_done (by kernel_rfl) ?_ _
              refine NoPanic.normal ?_
              clear hHeld
              go_wp2_with fail
              go_meet
              exact ⟨g20, gI, rfl, S1, XI.out.kp S2 (by simpa using GN.out), G20.out, GI.out, BS.out⟩
          focus
            go_simp
            refine hK.out _ _ ?_ (fun hHeld2 => ?_)
            · ((try dsimp only) <;> (first | trivial | assumption | go_keep))
            clear hHeld
            have hHeld := hHeld2
            clear hHeld2 hK K
            try simp only [Act.put, List.setIfInBounds_toArray, List.set_cons_zero, List.set_cons_succ]
            obtain ⟨w20, hw⟩ : ∃ W, W = wd.alloc (.cells #[.int .i64 0, .int .i64 0, .int .i64 0, .int .i64 0, .int .i64 0, .slice none 0 0, .slice none 0 0] 25) := ⟨_, rfl⟩
            have hb := (show Below wd.heap.size wd w20 by rw [hw]; exact (Below.refl _ _).alloc (Nat.le_refl _) _)
            have hX := (show Blk w20 wd.heap.size 25 #[.int .i64 0, .int .i64 0, .int .i64 0, .int .i64 0, .int .i64 0, .slice none 0 0, .slice none 0 0] by rw [hw]; exact Blk.new _ _ _)
            rw [← hw]
            clear hw hHeld
            obtain ⟨g20, hg⟩ : ∃ g, g = wd.heap.size := ⟨_, rfl⟩
            have G20 := hide (show wr.heap.size ≤ g20 by rw [hg]; exact BE.out.size)
            rw [← hg] at hX ⊢
            have X20 := hide hX
            replace BE := hide (BE.out.trans (hb.mono BE.out.size))
            replace X12 := hide (X12.out.below hb)
            skip
            skip
            have hHeld := op2S X12.out
            clear hb hX hg
            refine wpAnyH_ready (rs := [7, 11]) (by kernel_rfl) (by simp) ?_
            refine AllReadyH.cons (by simp only [List.getElem?_toArray, List.getElem?_cons_succ, List.getElem?_cons_zero]; rfl) (fun K hK => ?_) ?_
            rotate_left 1
            refine AllReadyH.cons (by simp only [List.getElem?_toArray, List.getElem?_cons_succ, List.getElem?_cons_zero]; rfl) (fun K hK => ?_) ?_
            rotate_left 1
            exact AllReadyH.nil
            focus
              have NX2 := NX.out _ BE.out
              have hfl : ∀ W : World, (Instr.field 81 (.agg #[.int .i64 (q : Int), .int .i64 ((s1 : Int) + 1)]) 0).run Tryd.prog W = .ok (.int .i64 (q : Int)) W := fun W => by kernel_rfl
              go_simp
              refine NX2.mono ?_; rintro r w21 ⟨rfl, hb⟩; replace BE := hide (BE.out.trans (hb.mono BE.out.size)); replace X12 := hide (X12.out.below hb); replace X20 := hide (X20.out.below hb); have hcc := op2S X12.out; clear hb
              refine hK.out _ _ ?_ (fun hHeld2 => ?_)
              · ((try dsimp only) <;> (first | trivial | assumption | go_keep))
              clear hHeld
              have hHeld := hHeld2
              clear hHeld2 hK K
              try simp only [Act.put, List.setIfInBounds_toArray, List.set_cons_zero, List.set_cons_succ]
              clear hHeld NX2
              have hHeld := hcc
              clear hcc
              refine tk 8 ?_
              clear hfl
              refine wpAnyH_ready (rs := [11]) (by kernel_rfl) (by simp) ?_
              refine AllReadyH.cons (by simp only [List.getElem?_toArray, List.getElem?_cons_succ, List.getElem?_cons_zero]; rfl) (fun K hK => ?_) ?_
              rotate_left 1
              · exact AllReadyH.nil
              go_simp
              refine hK.out _ _ ?_ (fun hHeld2 => ?_)
              · ((try dsimp only) <;> (first | trivial | assumption | go_keep))
              clear hHeld
              have hHeld := hHeld2
              clear hHeld2 hK K
              try simp only [Act.put, List.setIfInBounds_toArray, List.set_cons_zero, List.set_cons_succ]
              obtain ⟨w22, hw⟩ : ∃ W, W = w21.alloc (.cells #[.int .i64 (i1 : Int)] 3) := ⟨_, rfl⟩
              have hb := (show Below w21.heap.size w21 w22 by rw [hw]; exact (Below.refl _ _).alloc (Nat.le_refl _) _)
              have hX := (show Blk w22 w21.heap.size 3 (intC [(i1 : Int)]).toArray by rw [hw]; exact Blk.new _ _ _)
              rw [← hw]
              clear hw hHeld
              obtain ⟨gI, hg⟩ : ∃ g, g = w21.heap.size := ⟨_, rfl⟩
              have GI := hide (show wr.heap.size ≤ gI by rw [hg]; exact BE.out.size)
              rw [← hg] at hX ⊢
              have XI := hide hX
              replace BE := hide (BE.out.trans (hb.mono BE.out.size))
              replace X12 := hide (X12.out.below hb)
              skip
              replace X20 := hide (X20.out.below hb)
              have hHeld := op2S X12.out
              clear hb hX hg
              refine tk 12 ?_
              have GN := hide (show gI ≠ g20 from fun e => by subst e; exact absurd (Blk.type XI.out X20.out).1 (by decide))
              obtain ⟨y0, y1, y2, y3, y4, y5, y6⟩ := op7 X20.out
              have z := X20.out.frozen
              refine wpAnyH_ready (rs := [14]) (by kernel_rfl) (by simp) ?_
              refine AllReadyH.cons (by simp only [List.getElem?_toArray, List.getElem?_cons_succ, List.getElem?_cons_zero]; rfl) (fun K hK => ?_) ?_
              rotate_left 1
              · exact AllReadyH.nil
              go_simp
              obtain ⟨W, eW, S1, S2⟩ := set7x X20.out (.int .i64 (ep : Int)) (.int .i64 (s1 : Int)) (.int .i64 (k : Int)) (.int .i64 (n : Int)) (.int .i64 (q : Int)) (.slice none 0 0) (.slice (some ⟨gI, 0, none⟩) 1 1); have BS := hide (Below.kp2 BE.out S2 BE.out.size (by simpa using G20.out)); have hcc := op2S (X12.out.kp S2 (by intro e; have e := List.mem_singleton.1 e; subst e; exact absurd (Blk.type X12.out X20.out).1 (by decide))); rw [eW]; clear eW
              refine hK.out _ _ ?_ (fun hHeld2 => ?_)
              · ((try dsimp only) <;> (first | trivial | assumption | go_keep))
              clear hHeld
              have hHeld := hHeld2
              clear hHeld2 hK K
              try simp only [Act.put, List.setIfInBounds_toArray, List.set_cons_zero, List.set_cons_succ]
              clear y0 y1 y2 y3 y4 y5 y6 z hcc
              refine wpAnyH_done (by kernel_rfl) ?_ _
              refine NoPanic.normal ?_
              clear hHeld
              go_wp2_with fail
              go_meet
              exact ⟨g20, gI, rfl, S1, XI.out.kp S2 (by simpa using GN.out), G20.out, GI.out, BS.out⟩
            focus
              go_simp
              refine hK.out _ _ ?_ (fun hHeld2 => ?_)
              · ((try dsimp only) <;> (first | trivial | assumption | go_keep))
              clear hHeld
              have hHeld := hHeld2
              clear hHeld2 hK K
              try simp only [Act.put, List.setIfInBounds_toArray, List.set_cons_zero, List.set_cons_succ]
              obtain ⟨w21, hw⟩ : ∃ W, W = w20.alloc (.cells #[.int .i64 (i1 : Int)] 3) := ⟨_, rfl⟩
              have hb := (show Below w20.heap.size w20 w21 by rw [hw]; exact (Below.refl _ _).alloc (Nat.le_refl _) _)
              have hX := (show Blk w21 w20.heap.size 3 (intC [(i1 : Int)]).toArray by rw [hw]; exact Blk.new _ _ _)
              rw [← hw]
              clear hw hHeld
              obtain ⟨gI, hg⟩ : ∃ g, g = w20.heap.size := ⟨_, rfl⟩
              have GI := hide (show wr.heap.size ≤ gI by rw [hg]; exact BE.out.size)
              rw [← hg] at hX ⊢
              have XI := hide hX
              replace BE := hide (BE.out.trans (hb.mono BE.out.size))
              replace X12 := hide (X12.out.below hb)
              skip
              replace X20 := hide (X20.out.below hb)
              have hHeld := op2S X12.out
              clear hb hX hg
              have NX2 := NX.out _ BE.out
              have hfl : ∀ W : World, (Instr.field 81 (.agg #[.int .i64 (q : Int), .int .i64 ((s1 : Int) + 1)]) 0).run Tryd.prog W = .ok (.int .i64 (q : Int)) W := fun W => by kernel_rfl
              refine wpAnyH_ready (rs := [7]) (by kernel_rfl) (by simp) ?_
              refine AllReadyH.cons (by simp only [List.getElem?_toArray, List.getElem?_cons_succ, List.getElem?_cons_zero]; rfl) (fun K hK => ?_) ?_
              rotate_left 1
              · exact AllReadyH.nil
              go_simp
              refine NX2.mono ?_; rintro r w22 ⟨rfl, hb⟩; replace BE := hide (BE.out.trans (hb.mono BE.out.size)); replace X12 := hide (X12.out.below hb); replace XI := hide (XI.out.below hb); replace X20 := hide (X20.out.below hb); have hcc := op2S X12.out; clear hb
              refine hK.out _ _ ?_ (fun hHeld2 => ?_)
              · ((try dsimp only) <;> (first | trivial | assumption | go_keep))
              clear hHeld
              have hHeld := hHeld2
              clear hHeld2 hK K
              try simp only [Act.put, List.setIfInBounds_toArray, List.set_cons_zero, List.set_cons_succ]
              clear hHeld NX2
              have hHeld := hcc
              clear hcc
              refine tk 8 ?_
              clear hfl
              refine tk 12 ?_
              have GN := hide (show gI ≠ g20 from fun e => by subst e; exact absurd (Blk.type XI.out X20.out).1 (by decide))
              obtain ⟨y0, y1, y2, y3, y4, y5, y6⟩ := op7 X20.out
              have z := X20.out.frozen
              refine wpAnyH_ready (rs := [14]) (by kernel_rfl) (by simp) ?_
              refine AllReadyH.cons (by simp only [List.getElem?_toArray, List.getElem?_cons_succ, List.getElem?_cons_zero]; rfl) (fun K hK => ?_) ?_
              rotate_left 1
              · exact AllReadyH.nil
              go_simp
              obtain ⟨W, eW, S1, S2⟩ := set7x X20.out (.int .i64 (ep : Int)) (.int .i64 (s1 : Int)) (.int .i64 (k : Int)) (.int .i64 (n : Int)) (.int .i64 (q : Int)) (.slice none 0 0) (.slice (some ⟨gI, 0, none⟩) 1 1); have BS := hide (Below.kp2 BE.out S2 BE.out.size (by simpa using G20.out)); have hcc := op2S (X12.out.kp S2 (by intro e; have e := List.mem_singleton.1 e; subst e; exact absurd (Blk.type X12.out X20.out).1 (by decide))); rw [eW]; clear eW
              refine hK.out _ _ ?_ (fun hHeld2 => ?_)
              · ((try dsimp only) <;> (first | trivial | assumption | go_keep))
              clear hHeld
              have hHeld := hHeld2
              clear hHeld2 hK K
              try simp only [Act.put, List.setIfInBounds_toArray, List.set_cons_zero, List.set_cons_succ]
              clear y0 y1 y2 y3 y4 y5 y6 z hcc
              refine wpAnyH_done (by kernel_rfl) ?_ _
              refine NoPanic.normal ?_
              clear hHeld
              go_wp2_with fail
              go_meet
              exact ⟨g20, gI, rfl, S1, XI.out.kp S2 (by simpa using GN.out), G20.out, GI.out, BS.out⟩
        case rest =>
          obtain ⟨g20, gI, rfl, hx20, hxi, hg20, hgi, hbe⟩ := hcut
          have X20 := hide hx20
          have XI := hide hxi
          have G20 := hide (show w2.heap.size ≤ g20 ∧ w2.heap.size ≤ gI from ⟨Nat.le_trans RI.out.ld.sz hg20, Nat.le_trans RI.out.ld.sz hgi⟩)
          replace RI := hide (RI.out.below hbe)
          replace X12 := hide (X12.out.below hbe)
          clear hx20 hxi hg20 hgi hbe NX hw1
          go_upto_region 21 with fail
          have hcc := and2 (op2S X12.out) (op7 X20.out)
          refine wp_region_noPanic ?_
          refine wp_region_held_drew (S := (fun w' => w'.cell? ⟨g12, 0, none⟩ = some (.int .i64 (p : Int)) ∧ w'.cell? ⟨g12, 1, none⟩ = some (.int .i64 (s1 : Int)) ∧ w'.cell? ⟨g20, 0, none⟩ = some (.int .i64 (ep : Int)) ∧ w'.cell? ⟨g20, 1, none⟩ = some (.int .i64 (s1 : Int)) ∧ w'.cell? ⟨g20, 2, none⟩ = some (.int .i64 (k : Int)) ∧ w'.cell? ⟨g20, 3, none⟩ = some (.int .i64 (n : Int)) ∧ w'.cell? ⟨g20, 4, none⟩ = some (.int .i64 (q : Int)) ∧ w'.cell? ⟨g20, 5, none⟩ = some (.slice none 0 0) ∧ w'.cell? ⟨g20, 6, none⟩ = some (.slice (some ⟨gI, 0, none⟩) 1 1))) (by kernel_rfl) ?_ (fun hHeld => ?_)
          · ((try dsimp only) <;> (first | trivial | assumption | go_keep))
          clear hcc
          replace RI := hide (RI.out.below (Below.refl _ _).drew)
          replace X12 := hide X12.out.drew
          replace X20 := hide X20.out.drew
          replace XI := hide XI.out.drew
          generalize wc.drew = w6 at *
          obtain ⟨u, hu⟩ : ∃ u, u = UInt8.ofNat k := ⟨_, rfl⟩
          have hcv : IntKind.u8.wrap (k : Int) = (((UInt8.ofNat k).toNat : Nat) : Int) := by
            rw [UInt8.toNat_ofNat']
            simp [IntKind.wrap, IntKind.bits, IntKind.signed]
          rw [← hu] at hcv
          clear hu
          refine tk 0 ?_
          refine tk 1 ?_
          refine tk 2 ?_
          refine tk 3 ?_
          refine tk 4 ?_
          refine tk 5 ?_
          refine tk 6 ?_
          refine wpAnyH_ready (rs := [7]) (by kernel_rfl) (by simp) ?_
          refine AllReadyH.cons (by simp only [List.getElem?_toArray, List.getElem?_cons_succ, List.getElem?_cons_zero]; rfl) (fun K hK => ?_) ?_
          rotate_left 1
          · exact AllReadyH.nil
          go_simp
          refine hK.out _ _ ?_ (fun hHeld2 => ?_)
          · ((try dsimp only) <;> (first | trivial | assumption | go_keep))
          clear hHeld
          have hHeld := hHeld2
          clear hHeld2 hK K
          try simp only [Act.put, List.setIfInBounds_toArray, List.set_cons_zero, List.set_cons_succ]
          have ba := (Below.refl w6.heap.size w6).alloc (Nat.le_refl _) (.cells #[.int .u8 ((u.toNat : Nat) : Int)] 5)
          have HBY : Hid (By (w6.alloc (.cells #[.int .u8 ((u.toNat : Nat) : Int)] 5)) (w6.alloc (.cells #[.int .u8 ((u.toNat : Nat) : Int)] 5)).heap.size (some ⟨w6.heap.size, 0, none⟩) 1 [u]) := hide (by_blk (l := [u]) (Blk.new w6 5 #[.int .u8 ((u.toNat : Nat) : Int)]) rfl)
          replace RI := hide (RI.out.below ba)
          replace X12 := hide (X12.out.below ba)
          replace X20 := hide (X20.out.below ba)
          replace XI := hide (XI.out.below ba)
          obtain ⟨g30, hg⟩ : ∃ g, g = w6.heap.size := ⟨_, rfl⟩
          rw [← hg] at HBY ⊢
          clear ba hg
          generalize w6.alloc (.cells #[.int .u8 ((u.toNat : Nat) : Int)] 5) = w7 at *
          clear hHeld hcv
          have hHeld := and2 (op2S X12.out) (op7 X20.out)
          have BC := hide (blocks_any (⟨(ep : Int), (s1 : Int), (k : Int), (n : Int), (q : Int), [], [(i1 : Int)]⟩ : PV) none (some ⟨gI, 0, none⟩) 0 0 1 1 0 0 (some ⟨g30, 0, none⟩) 1 1 _ [u] w7 FisAt.nil rfl (by decide) (by decide) (by show lsN [] ≤ 100000; decide) HBY.out (Nat.le_refl _) (by decide) (by decide))
          rw [show min ((⟨(ep : Int), (s1 : Int), (k : Int), (n : Int), (q : Int), [], [(i1 : Int)]⟩ : PV)).n 200 - 2 = 1 from rfl] at BC
          refine wpAnyH_ready (rs := [8]) (by kernel_rfl) (by simp) ?_
          refine AllReadyH.cons (by simp only [List.getElem?_toArray, List.getElem?_cons_succ, List.getElem?_cons_zero]; rfl) (fun K hK => ?_) ?_
          rotate_left 1
          · exact AllReadyH.nil
          go_simp
          refine BC.out.mono ?_; rintro r w8 ⟨A8, c8, gs, rfl, hR, hb⟩; have RT := hide hR; have S4 := hide RI.out.ld.sz; replace RI := hide (RI.out.below hb); replace X12 := hide (X12.out.below hb); replace X20 := hide (X20.out.below hb); replace XI := hide (XI.out.below hb); have hcc := and2 (op2S X12.out) (op7 X20.out); clear hR hb
          refine hK.out _ _ ?_ (fun hHeld2 => ?_)
          · ((try dsimp only) <;> (first | trivial | assumption | go_keep))
          clear hHeld
          have hHeld := hHeld2
          clear hHeld2 hK K
          try simp only [Act.put, List.setIfInBounds_toArray, List.set_cons_zero, List.set_cons_succ]
          clear hHeld BC HBY
          have hHeld := hcc
          clear hcc
          have hlen := RI.out.len
          have hckV : ((⟨(ep : Int), (s1 : Int), (k : Int), (n : Int), (q : Int), [], [(i1 : Int)]⟩ : PV)).ck = 0 := by
            have hb := HB.out
            obtain ⟨-, h2, h3, h4⟩ := HL.out
            subst h2 h3 h4
            have := baV_ck (ep := (ep : Int)) (c := (ct : Int)) (t := t') (k := k) (n := n) (i := i) (by omega) (by omega) (by omega) hk HNQ.out.2 hlt2
            unfold baV at this
            rw [← Int.natCast_add] at this
            exact this
          have hst0 := bch_step RI.out.left RI.out.q RI.out.n RI.out.ch (by rw [hlen]; omega) (v := (⟨(ep : Int), (s1 : Int), (k : Int), (n : Int), (q : Int), [], [(i1 : Int)]⟩ : PV)) hckV rfl (by rw [hlen]; show (q : Int) = _; rw [HL.out.2.1]) rfl (by rw [hlen]; have := HL.out.2.2.1; show (s1 : Int) = _; omega) (bs := blkS 1 [u]) (blkS_len _ _) (blkS_64 _ _)
          rw [hlen, ← HL.out.1] at hst0
          have WC := hide (write_any w2 w8 d D RI.out.ld (p : Int) (by have := HPB.out; unfold I64; omega) (⟨(ep : Int), (s1 : Int), (k : Int), (n : Int), (q : Int), [], [(i1 : Int)]⟩ : PV) none (some ⟨gI, 0, none⟩) 0 0 1 1 0 0 SP.out FisAt.nil (rw_blk XI.out (Nat.zero_le _) rfl) (by decide) (by decide) (by show lsN [] ≤ 100000; decide) (by intro f hf; cases hf) A8 1 c8 (blkS 1 [u]) (by have := (RT.out.bq S4.out).bs; rw [blkS_len] at this; exact this) (by decide) (by have := RI.out.s; omega) (by rw [RI.out.q]; exact Nat.zero_le _))
          have hbd := wrS_bd D (p : Int) (⟨(ep : Int), (s1 : Int), (k : Int), (n : Int), (q : Int), [], [(i1 : Int)]⟩ : PV) (blkS 1 [u])
          have hln := wrS_len D (p : Int) (⟨(ep : Int), (s1 : Int), (k : Int), (n : Int), (q : Int), [], [(i1 : Int)]⟩ : PV) (blkS 1 [u])
          obtain ⟨R, hR⟩ : ∃ R, R = wrS D (p : Int) (⟨(ep : Int), (s1 : Int), (k : Int), (n : Int), (q : Int), [], [(i1 : Int)]⟩ : PV) (blkS 1 [u]) := ⟨_, rfl⟩
          rw [← hR] at WC hst0 hbd hln
          clear hR hckV hlen
          obtain ⟨q0, E⟩ := R
          obtain ⟨rfl, f1, f2, f3⟩ := hst0
          dsimp only at WC f1 f2 f3 hbd hln
          have HE := hide (And.intro f1 (And.intro f2 (And.intro f3 (And.intro hbd.1 hln))))
          clear f1 f2 f3 hbd hln
          refine wpAnyH_ready (rs := [9]) (by kernel_rfl) (by simp) ?_
          refine AllReadyH.cons (by simp only [List.getElem?_toArray, List.getElem?_cons_succ, List.getElem?_cons_zero]; rfl) (fun K hK => ?_) ?_
          rotate_left 1
          · exact AllReadyH.nil
          go_simp
          refine WC.out.mono ?_; rintro r w9 ⟨rfl, hst⟩; have K9 := hide (stp_kt RI.out.ld hst); have L9 := hide hst.ld; replace X12 := hide (X12.out.kt K9.out (by decide)); replace X20 := hide (X20.out.kt K9.out (by decide)); have X7 := hide (RI.out.x7.kt K9.out (by decide)); have X16 := hide (RI.out.x16.kt K9.out (by decide)); clear hst; have hcc := and2 (op2S X12.out) (op7 X20.out)
          refine hK.out _ _ ?_ (fun hHeld2 => ?_)
          · ((try dsimp only) <;> (first | trivial | assumption | go_keep))
          clear hHeld
          have hHeld := hHeld2
          clear hHeld2 hK K
          try simp only [Act.put, List.setIfInBounds_toArray, List.set_cons_zero, List.set_cons_succ]
          clear hHeld WC K9 RT S4 XI
          have hHeld := hcc
          clear hcc
          refine tk 10 ?_
          refine wpAnyH_done (by kernel_rfl) ?_ _
          refine NoPanic.normal ?_
          clear hHeld X20
          obtain ⟨s2, hs2⟩ : ∃ s2, s2 = s1 + 1 := ⟨_, rfl⟩
          have NX3 := hide (show Calls Tryd.prog 30 #[.agg #[.int .i64 (p : Int), .int .i64 (s1 : Int)], .pointer (some ⟨g7, 0, none⟩)] w9 fun r w' => r = .returned (.agg #[.int .i64 (q : Int), .int .i64 (s2 : Int)]) ∧ Below w9.heap.size w9 w' from by
            rw [HL.out.1, HL.out.2.1, hs2, Int.natCast_add]
            exact plnext_any w9 g7 X7.out t' ht23 (s1 : Int) (by have := HL.out.2.2.1; have := HB.out; omega))
          have HS2 := hide hs2
          clear hs2
          obtain ⟨y0, y1⟩ := op2S X12.out
          go_wp2_with fail
          clear y0 y1
          refine NX3.out.mono ?_
          rintro r w10 ⟨rfl, hb⟩
          replace X12 := hide (X12.out.below hb)
          replace X7 := hide (X7.out.below hb)
          replace X16 := hide (X16.out.below hb)
          replace L9 := hide (L9.out.below hb)
          clear hb NX3
          obtain ⟨y0, y1⟩ := op2S X12.out
          have z0 := X12.out.frozen 0
          have z1 := X12.out.frozen 1
          go_upto_region 24 with fail
          clear y0 y1 z0 z1
          obtain ⟨w11, eW, S1, S2⟩ := set2x X12.out (.int .i64 (q : Int)) (.int .i64 (s2 : Int))
          rw [eW]
          clear eW
          have KB := kt_box S2 X12.out (base := w2.heap.size) G12.out
          replace L9 := hide (L9.out.kpO S2 (fun k hk => by
            have e := List.mem_singleton.1 hk
            subst e
            exact ⟨G12.out, out_typeO L9.out X12.out (by decide)⟩))
          replace X7 := hide (X7.out.kt KB (by decide))
          replace X16 := hide (X16.out.kp S2 (by have := G16.out.2; simpa using Ne.symm this))
          replace X12 := hide S1
          clear KB S1 S2
          obtain ⟨l1, hl1⟩ : ∃ l1, l1 = lf - 1 := ⟨_, rfl⟩
          obtain ⟨n1, hn1⟩ : ∃ n1, n1 = n - 1 := ⟨_, rfl⟩
          have hw1 : IntKind.i64.wrap ((lf : Int) - 1) = (l1 : Int) := by rw [IntKind.wrap_i64]; omega
          have hw2 : IntKind.i64.wrap ((n : Int) - 1) = (n1 : Int) := by have := HNQ.out; rw [IntKind.wrap_i64]; omega
          have HLN := hide (And.intro hl1 (show n1 + 1 = n by have := HNQ.out; omega))
          clear hl1 hn1
          have RN : Hid (∀ W tw, LD w2 W d E → Blk W g7 73 #[.int .i64 100, .int .i64 16, .int .i64 9] → Blk W g12 81 #[.int .i64 (q : Int), .int .i64 (s2 : Int)] → Blk W g16 81 #[.int .i64 (pl tw : Int), .int .i64 ((ct + tw : Nat) : Int)] → BaI w2 W d g7 g12 g16 ep ct E (vss.flatten ++ (cur ++ [(⟨(ep : Int), (s1 : Int), (k : Int), (n : Int), (q : Int), [], [(i1 : Int)]⟩ : PV)])) (t' + 1) tw) := hide (fun W tw h1 h2 h3 h4 => by
            obtain ⟨f1, f2, f3, f4, f5⟩ := HE.out
            refine ⟨h1, f1, f2, by rw [f5]; exact RI.out.n, by rw [← List.append_assoc, List.length_append, RI.out.len]; rfl, ?_, by rw [← List.append_assoc]; exact f3, by omega, h2, ?_, h4⟩
            · rw [blkS_len] at f4
              have := RI.out.s
              omega
            · rw [← HL.out.2.1, show ct + (t' + 1) = s2 by have := HS2.out; have := HL.out.2.2.1; omega]
              exact h3)
          have OKB := hide (show okB vss.length n 0 (cur ++ [(⟨(ep : Int), (s1 : Int), (k : Int), (n : Int), (q : Int), [], [(i1 : Int)]⟩ : PV)]) from okB_snoc 0 cur (⟨(ep : Int), (s1 : Int), (k : Int), (n : Int), (q : Int), [], [(i1 : Int)]⟩ : PV) HOK.out (by rw [HCL.out, Nat.zero_add]) rfl (by have := HL.out.2.2.2; have := HVI.out; show [(i1 : Int)] = _; congr 1; omega))
          have hwh : IntKind.i64.wrap ((vss.length : Int) + 1) = (vss.length : Int) + 1 := by have := HVI.out; rw [IntKind.wrap_i64]; omega
          have hwk : IntKind.i64.wrap ((k : Int) + 1) = (k : Int) + 1 := by have := HNQ.out; rw [IntKind.wrap_i64]; omega
          by_cases hkn1 : k = n1
          · have he : ((k : Int) == (n1 : Int)) = true := beq_iff_eq.2 (by omega)
            have HK1 := hide hkn1
            clear hkn1
            obtain ⟨y0, y1⟩ := op2S X12.out
            obtain ⟨x0, x1⟩ := op2S X16.out
            have z0 := X16.out.frozen 0
            have z1 := X16.out.frozen 1
            go_upto_region 27 with fail
            go_upto_region 19 with fail
            obtain ⟨w12, eW, S1, S2⟩ := set2x X16.out (.int .i64 (q : Int)) (.int .i64 (s2 : Int))
            rw [eW]
            clear eW y0 y1 x0 x1 z0 z1 he
            have KB := kt_box S2 X16.out (base := w2.heap.size) G16.out.1
            have RF := RN.out w12 (t' + 1) (L9.out.kpO S2 (fun k hk => by
              have e := List.mem_singleton.1 hk
              subst e
              exact ⟨G16.out.1, out_typeO L9.out X16.out (by decide)⟩)) (X7.out.kt KB (by decide)) (X12.out.kp S2 (by have := G16.out.2; simpa using this)) (by rw [← HL.out.2.1, show ct + (t' + 1) = s2 by have := HS2.out; have := HL.out.2.2.1; omega]; exact S1)
            have RF := hide RF
            clear S1 S2 KB
            go_wp2_with fail
            go_roundw
            case rel => exact ⟨k + 1, l1, t' + 1, vss.length + 1, t' + 1, cur ++ [(⟨(ep : Int), (s1 : Int), (k : Int), (n : Int), (q : Int), [], [(i1 : Int)]⟩ : PV)], E, by go_num, rfl, by go_num, hk, by have := HLN.out.1; omega, by rw [List.length_append, HCL.out]; rfl, OKB.out, fun h => by have := HLN.out.2; have := HK1.out; omega, fun _ => ⟨rfl, by have := HT.out; have := HLN.out.2; have := HK1.out; omega⟩, by have := HT.out; omega, RF.out⟩
            case measure => simp [intOf]; omega
          · have he : ((k : Int) == (n1 : Int)) = false := beq_eq_false_iff_ne.2 (by omega)
            have HK1 := hide hkn1
            clear hkn1
            go_wp2_with fail
            go_roundw
            case rel => exact ⟨k + 1, l1, t' + 1, vss.length, vss.flatten.length, cur ++ [(⟨(ep : Int), (s1 : Int), (k : Int), (n : Int), (q : Int), [], [(i1 : Int)]⟩ : PV)], E, rfl, rfl, by go_num, hk, by have := HLN.out.1; omega, by rw [List.length_append, HCL.out]; rfl, OKB.out, fun _ => ⟨rfl, rfl⟩, fun h => absurd (show k = n1 by have := HLN.out.2; omega) HK1.out, by have := HT.out; omega, RN.out _ _ L9.out X7.out X12.out X16.out⟩
            case measure => simp [intOf]; omega
  case rest =>
    obtain ⟨vss, cur, n, t, D, rfl, hbv, hri⟩ := hcut
    have RI := hide hri
    have BV := hide hbv
    clear hbv hri
    have hbs := bch_scan RI.out.n vss cur 0 0 (by simpa using RI.out.ch) BV.out.w (by simpa using BV.out.c) BV.out.l (by have := RI.out.len; have := RI.out.le; rw [List.length_append] at *; omega)
    rw [Nat.zero_add, show ((pl 0 : Nat) : Int) = 19 from rfl, show (ct : Int) + ((0 : Nat) : Int) = (ct : Int) by omega] at hbs
    have HVL := hide (show vss.length ≤ 24 by have := okW_len 0 vss BV.out.w; have := RI.out.len; have := RI.out.le; rw [List.length_append] at *; omega)
    have SC := hide (scan_any w2 wc d D RI.out.ld 100 16 9 19 (ep : Int) (ct : Int) (by unfold I64; omega) (by have := HB.out; unfold I64; omega) (by decide) (by rw [RI.out.n]; decide) SP.out vss (by have := HVL.out; omega) hbs.1)
    have HEX := hide hbs.2
    clear hbs
    have B6 := hide RI.out.ld.bel
    have X7 := hide RI.out.x7
    have X16 := hide RI.out.x16
    have HW := hide BV.out.w
    have HFL := hide (show vss.flatten.length ≤ 24 by have := RI.out.len; have := RI.out.le; rw [List.length_append] at *; omega)
    clear RI BV
    obtain ⟨y0, y1, y2⟩ := op3S X7.out
    go_wp2_with fail
    clear y0 y1 y2 X7
    refine SC.out.mono ?_
    rintro r w7 ⟨⟨A4, c4, ss, rfl, hbr⟩, hb⟩
    rw [HEX.out, ← Int.natCast_add]
    replace B6 := hide (B6.out.trans (hb.mono B6.out.size))
    replace X16 := hide (X16.out.below hb)
    have BR := hide hbr
    clear hb SC hbr HEX
    obtain ⟨tw, htw⟩ : ∃ x, x = pl vss.flatten.length := ⟨_, rfl⟩
    obtain ⟨s2, hs2⟩ : ∃ x, x = ct + vss.flatten.length := ⟨_, rfl⟩
    rw [← htw, ← hs2] at X16 ⊢
    clear htw hs2
    obtain ⟨y0, y1⟩ := op2S X16.out
    obtain ⟨B, hB⟩ : ∃ x, x = vss.length := ⟨_, rfl⟩
    have HBL := hide hB
    have hB24 : B ≤ 24 := by rw [hB]; exact HVL.out
    rw [← hB]
    clear hB HVL
    have ne1 : ((B : Int) != (B : Int)) = false := by simp
    have ne2 : ((tw : Int) != (tw : Int)) = false := by simp
    have ne3 : ((s2 : Int) != (s2 : Int)) = false := by simp
    go_wp2_with fail
    clear ne1 ne2 ne3 y0 y1
    go_loopw [159] (fun y wz => ∃ j : Nat, j ≤ B ∧ y = .int .i64 (j : Int) ∧ Below w7.heap.size w7 wz) (fun y _ => B - (intOf y).toNat)
    case atStart => exact ⟨0, Nat.zero_le _, rfl, Below.refl _ _⟩
    case round =>
      obtain ⟨j, hj, rfl, hbz⟩ := hrel
      have BZ := hide hbz
      clear hbz
      by_cases hji : j < B
      rotate_left
      · have hjs : ¬ (j : Int) < (B : Int) := by omega
        go_wp2_with fail
        go_ret
        exact ⟨rfl, BW.out.trans ((B6.out.trans (BZ.out.mono B6.out.size)).mono BW.out.size)⟩
      have hjs : (j : Int) < (B : Int) := by omega
      have BRZ := BR.out.below BZ.out
      obtain ⟨gw, uw, rfl, -, -, hxs, xw, -, -⟩ := own_set1 BRZ.own (show j < (adXs 19 vss).length by rw [adXs_len, ← HBL.out]; exact hji)
      obtain ⟨ps, hps⟩ : ∃ ps, (adXs 19 vss)[j]? = some ps := ⟨_, List.getElem?_eq_getElem (by rw [adXs_len, ← HBL.out]; exact hji)⟩
      obtain ⟨A1, c1, cs, rfl, hfr⟩ := BRZ.at_ j uw ps hxs hps
      obtain ⟨a', vs, hvs, rfl⟩ := adXs_get 19 vss j ps hps
      have HOB := hide (okW_at 0 vss HW.out j vs hvs)
      have FR := hide hfr
      rw [adX_len] at xw
      obtain ⟨n, hn⟩ : ∃ n, n = vs.length := ⟨_, rfl⟩
      have HN := hide hn
      rw [← hn] at xw HOB
      have hn24 : n ≤ 24 := by rw [hn]; exact Nat.le_trans (vflat_len (List.mem_of_getElem? hvs)) HFL.out
      rw [Nat.zero_add] at HOB
      clear hn hxs hps hvs hfr BRZ
      go_wp2_with fail
      clear xw
      obtain ⟨wo, rfl⟩ : ∃ wo : World, wo = wr := ⟨_, rfl⟩
      go_loopw [166] (fun y wz => ∃ k : Nat, k ≤ n ∧ y = .int .i64 (k : Int) ∧ Below wo.heap.size wo wz) (fun y _ => n - (intOf y).toNat)
      case atStart => exact ⟨0, Nat.zero_le _, rfl, Below.refl _ _⟩
      case round =>
        obtain ⟨k, hk, rfl, hbz⟩ := hrel
        have BY := hide hbz
        clear hbz
        by_cases hki : k < n
        rotate_left
        · have hks : ¬ (k : Int) < (n : Int) := by omega
          go_wp2_with fail
          go_roundw
          case rel => exact ⟨j + 1, by omega, by go_num, BZ.out.trans (BY.out.mono BZ.out.size)⟩
          case measure => simp [intOf]; omega
        have hks : (k : Int) < (n : Int) := by omega
        obtain ⟨p, hp⟩ : ∃ p, (adX a' vs)[k]? = some p := ⟨_, List.getElem?_eq_getElem (by rw [adX_len, ← HN.out]; exact hki)⟩
        obtain ⟨gl, B1, d1, B2, d2, A3, n3, c3, rfl, hc, hi⟩ := (FR.out.below BY.out).row hp
        obtain ⟨q1, q2, q3⟩ := okB_at 0 vs HOB.out k p.2 (adX_get _ _ _ _ hp)
        rw [Nat.zero_add] at q1
        rw [q3] at hi
        obtain ⟨gi, oi, rfl, -, hci⟩ := RwAt.at hi (Nat.zero_lt_one) (by decide)
        obtain ⟨j1, hj1⟩ : ∃ j1, j1 = j + 1 := ⟨_, rfl⟩
        have hw1 : IntKind.i64.wrap ((j : Int) + 1) = (j1 : Int) := by rw [IntKind.wrap_i64]; omega
        have xi := hci 0 _ rfl
        rw [Nat.add_zero, ← hj1] at xi
        have x0 : wr.cell? ⟨gl, k * 9, none⟩ = some (.int .i64 p.1) := hc 0 _ (by decide) rfl
        have x1 := hc 1 _ (by decide) rfl
        have x2 := hc 2 _ (by decide) rfl
        have x3 : wr.cell? ⟨gl, k * 9 + 3, none⟩ = some (.int .i64 (k : Int)) := by rw [← q1]; exact hc 3 _ (by decide) rfl
        have x4 : wr.cell? ⟨gl, k * 9 + 4, none⟩ = some (.int .i64 (n : Int)) := by rw [← q2]; exact hc 4 _ (by decide) rfl
        have x5 := hc 5 _ (by decide) rfl
        have x6 := hc 6 _ (by decide) rfl
        have x7 : wr.cell? ⟨gl, k * 9 + 7, none⟩ = some (.slice (some ⟨gi, oi, none⟩) 1 d2) := by
          have := hc 7 _ (by decide) rfl
          rw [q3] at this
          exact this
        have x8 := hc 8 _ (by decide) rfl
        obtain ⟨p1, v⟩ := p
        dsimp only at x0 x1 x2 x5 x6 x8
        clear hc hi hci q1 q2 q3 hp hj1
        go_upto_region 37 with fail
        clear x0 x1 x2 x3 x4 x5 x6 x7 x8
        obtain ⟨w8, hw⟩ : ∃ W, W = wr.alloc (.cells #[.int .i64 p1, .int .i64 v.e, .int .i64 v.c, .int .i64 (k : Int), .int .i64 (n : Int), .int .i64 v.x, .slice B1 v.fs.length d1, .slice (some ⟨gi, oi, none⟩) 1 d2, .slice A3 n3 c3] 39) := ⟨_, rfl⟩
        have ba := (show Below wr.heap.size wr w8 by rw [hw]; exact (Below.refl _ _).alloc (Nat.le_refl _) _)
        have X27 := (show Blk w8 wr.heap.size 39 #[.int .i64 p1, .int .i64 v.e, .int .i64 v.c, .int .i64 (k : Int), .int .i64 (n : Int), .int .i64 v.x, .slice B1 v.fs.length d1, .slice (some ⟨gi, oi, none⟩) 1 d2, .slice A3 n3 c3] by rw [hw]; exact Blk.new _ _ _)
        have xj : w8.cell? ⟨gi, oi, none⟩ = some (.int .i64 (j1 : Int)) := (ba.cell (p := ⟨gi, oi, none⟩) (cell_lt xi)).trans xi
        rw [← hw]
        obtain ⟨g27, hg⟩ : ∃ g, g = wr.heap.size := ⟨_, rfl⟩
        rw [← hg] at X27 ⊢
        replace BY := hide (BY.out.trans (ba.mono BY.out.size))
        clear hw hg ba xi
        have x3 := X27.cell 3
        have x4 := X27.cell 4
        have x7 := X27.cell 7
        simp only [List.getElem?_toArray, List.getElem?_cons_succ, List.getElem?_cons_zero] at x3 x4 x7
        have ne1 : ((k : Int) != (k : Int)) = false := by simp
        have ne2 : ((n : Int) != (n : Int)) = false := by simp
        have ne3 : ((j1 : Int) != (j1 : Int)) = false := by simp
        clear X27
        go_wp2_with fail
        go_roundw
        case rel => exact ⟨k + 1, by omega, by go_num, BY.out⟩
        case measure => simp [intOf]; omega
end Go.Proofs.YtlobkefacnedeaaDoor
