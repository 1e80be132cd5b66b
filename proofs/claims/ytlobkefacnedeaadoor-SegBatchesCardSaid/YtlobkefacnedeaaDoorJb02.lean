import Derived.Test.YtlobkefacnedeaaDoorJb01
set_option linter.unusedVariables false
set_option linter.unusedSimpArgs false
/- The walk of marllaw15.SegRows. -/
namespace Go.Proofs.YtlobkefacnedeaaDoor
open Go.RowKit
set_option maxRecDepth 100000
attribute [local go_sem ↓] Go.wp_at_zero Go.wp_at_succ

/-- What holds while pieces are written. -/
structure RwI (w2 wr : World) (d a0 i at_ : Nat) (A' : Option Addr) (c' : Nat) (vs : List PV) (D : Dsk) : Prop where
  i20 : i ≤ 20
  at_ : at_ = a0 + tot vs
  tl : tot vs ≤ 32
  len : vs.length = i
  cnt : ∀ (j : Nat) (v : PV), vs[j]? = some v → v.c = (j : Int)
  ld : LD w2 wr d D
  left : D.left < 0
  q : D.queue = []
  n : D.sure.length = 200
  s : D.steps ≤ 20 * i
  ch : chn D 200 a0 vs
  own : wr.ownsRow w2.heap.size 3 1 (.slice A' i c') i (intC ((adS (a0 : Int) vs).map (·.1)))
theorem RwI.below {w2 w w' : World} {d a0 i at_ : Nat} {A' : Option Addr} {c' : Nat} {vs : List PV} {D : Dsk} (h : RwI w2 w d a0 i at_ A' c' vs D) (hb : Below w.heap.size w w') : RwI w2 w' d a0 i at_ A' c' vs D :=
  { h with ld := h.ld.below hb, own := own_bel h.own hb }
theorem FdRow.at {base c j : Nat} {w : World} {A : Option Addr} {cs : List (List Value)} {ps : List (Int × PV)} {p : Int × PV} (h : FdRow base w A c cs ps) (hp : ps[j]? = some p) :
    ∃ g, A = some ⟨g, 0, none⟩ ∧ w.cell? ⟨g, j * 9, none⟩ = some (.int .i64 p.1) ∧ w.cell? ⟨g, j * 9 + 1, none⟩ = some (.int .i64 p.2.e) ∧ w.cell? ⟨g, j * 9 + 2, none⟩ = some (.int .i64 p.2.c) ∧ w.cell? ⟨g, j * 9 + 3, none⟩ = some (.int .i64 p.2.i) ∧ w.cell? ⟨g, j * 9 + 4, none⟩ = some (.int .i64 p.2.p) ∧
      ∃ B2 d2, w.cell? ⟨g, j * 9 + 7, none⟩ = some (.slice B2 p.2.is.length d2) ∧ IntsAt base base w B2 p.2.is.length p.2.is := by
  have hj := (List.getElem?_eq_some_iff.1 hp).1
  have hl := h.len
  have hx : cs[j]? = some (cs[j]'(by omega)) := List.getElem?_eq_getElem _
  have hall : ∀ x ∈ cs, x.length = 9 := fun x hm => by
    obtain ⟨i, hi, e⟩ := List.getElem_of_mem hm
    obtain ⟨B1, d1, B2, d2, A3, n3, c3, e2, -⟩ := h.at_ i x (ps[i]'(by omega)) (by rw [List.getElem?_eq_getElem hi, e]) (List.getElem?_eq_getElem _)
    rw [e2]; rfl
  obtain ⟨B1, d1, B2, d2, A3, n3, c3, e, hi⟩ := h.at_ j _ p hx hp
  have hcell : ∀ t u, t < 9 → (cs[j]'(by omega))[t]? = some u → cs.flatten[j * 9 + t]? = some u := fun t u ht hu => by
    rw [flatten_getR cs hall j t ht, hx]
    exact hu
  rcases h.own.2 with ⟨-, h0⟩ | ⟨g, cap, cur, hv, -, hB, -, -, -, ht⟩
  · omega
  · injection hv with hv
    have hc : ∀ t u, t < 9 → (cs[j]'(by omega))[t]? = some u → w.cell? ⟨g, j * 9 + t, none⟩ = some u := fun t u h1 h2 => by
      have h3 := hcell t u h1 h2
      rw [← ht, List.getElem?_take] at h3
      split at h3
      · have hB' : Blk w g 39 cur := hB
        rw [hB'.cell]
        simpa using h3
      · cases h3
    exact ⟨g, hv, hc 0 _ (by decide) (by rw [e]; rfl), hc 1 _ (by decide) (by rw [e]; rfl), hc 2 _ (by decide) (by rw [e]; rfl), hc 3 _ (by decide) (by rw [e]; rfl), hc 4 _ (by decide) (by rw [e]; rfl), B2, d2, hc 7 _ (by decide) (by rw [e]; rfl), hi⟩
theorem adS_some : ∀ (a : Int) (vs : List PV) (j : Nat), j < vs.length → ∃ p, (adS a vs)[j]? = some p := fun a vs j h => ⟨(adS a vs)[j]'(by rw [adS_len]; exact h), List.getElem?_eq_getElem _⟩
/-- One piece more. -/
theorem RwI.step {w2 wd w' : World} {d a0 i at_ kk n x : Nat} {A' A2 : Option Addr} {c' c2 : Nat} {vs : List PV} {D : Dsk} {bs : List (List UInt8)} {R : Int × Dsk} (h : RwI w2 wd d a0 i at_ A' c' vs D) (hR : R = wrS D (at_ : Int) (rwV i n x) bs) (ha : a0 = 3 + 32 * kk) (hk : kk < 6) (hx : x = nxR at_ n) (hi : i < 20) (hn : n ≤ 6) (ht : at_ + n + 2 ≤ a0 + 32) (hb : bs.length = n) (h64 : ∀ b ∈ bs, b.length = 64) :
    R.1 = 0 ∧ (LD w2 w' d R.2 → w'.ownsRow w2.heap.size 3 1 (.slice A2 (i + 1) c2) (i + 1) (intC ((adS (a0 : Int) vs).map (·.1)) ++ [.int .i64 (at_ : Int)]) → RwI w2 w' d a0 (i + 1) (at_ + (n + 2)) A2 c2 (vs ++ [rwV i n x]) R.2) := by
  have h1 := rows_step h.left (by rw [h.q]; simp) h.n hk (by rw [← ha]; exact h.ch) hi hn (by have := h.at_; omega) hb h64
  rw [← ha, ← h.at_, ← hx, ← hR] at h1
  obtain ⟨e1, e2, e3, e4⟩ := h1
  refine ⟨e1, fun hl ho => ⟨by omega, ?_, ?_, by rw [List.length_append, h.len]; rfl, fun j v hv => ?_, hl, e2, e3, ?_, ?_, e4, ?_⟩⟩
  · rw [tot_snoc, rwV_n, h.at_]; omega
  · rw [tot_snoc, rwV_n]; have := h.at_; omega
  · rcases Nat.lt_or_ge j vs.length with hj | hj
    · rw [List.getElem?_append_left hj] at hv
      exact h.cnt j v hv
    · rw [List.getElem?_append_right hj] at hv
      have hj0 : j - vs.length = 0 := by
        have := (List.getElem?_eq_some_iff.1 hv).1
        simpa using this
      rw [hj0] at hv
      simp only [List.getElem?_cons_zero, Option.some.injEq] at hv
      subst hv
      have := h.len
      show (i : Int) = (j : Int)
      omega
  · rw [hR, wrS_len]; exact h.n
  · have := (wrS_bd D (at_ : Int) (rwV i n x) bs).1
    have := h.s
    rw [hR]
    omega
  · rw [adS_snoc, List.map_append]
    have e : (a0 : Int) + (tot vs : Nat) = (at_ : Int) := by have := h.at_; omega
    simp only [List.map_cons, List.map_nil, e]
    rw [← intC_app]
    exact ho
set_option maxHeartbeats 8000000 in
theorem rows_law (A : Option Addr) (m c : Nat) (data : List UInt8) (k : Int) (w : World) (sp : SpanAt w) (hd : By w w.heap.size A m data) (hm : m ≤ 9223372036854775807) :
    Calls Tryd.prog 7 #[.slice A m c, .int .i64 k] w fun r w' => r = .returned (.bool true) ∧ Below w.heap.size w w' := by
  have SP := hide sp
  have HD := hide hd
  obtain ⟨kk, hkk, hk6⟩ := modU k 6 (by decide) (by decide)
  have HK6 : kk < 6 := by omega
  clear sp hd hk6
  go_enter Tryd.func7, Tryd.ntmps7
  go_wp2_with fail
  refine (awake15 w SP.out).mono ?_
  rintro r w1 ⟨rfl, hb⟩
  have BW := hide hb
  clear hb
  go_upto_region 4 with fail
  obtain ⟨w2, hw⟩ : ∃ W, W = w1.alloc (.cells #[.int .i64 200, .int .i64 32, .int .i64 9] 73) := ⟨_, rfl⟩
  have ba := (show Below w1.heap.size w1 w2 by rw [hw]; exact (Below.refl _ _).alloc (Nat.le_refl _) _)
  have X5 : Hid (Blk w2 w1.heap.size 73 #[.int .i64 200, .int .i64 32, .int .i64 9]) := hide (by rw [hw]; exact Blk.new _ _ _)
  rw [← hw]
  obtain ⟨g5, hg⟩ : ∃ g, g = w1.heap.size := ⟨_, rfl⟩
  rw [← hg] at X5 ⊢
  replace BW := hide (BW.out.trans (ba.mono BW.out.size))
  replace SP := hide (SP.out.bel BW.out)
  replace HD := hide ((HD.out.below BW.out).more BW.out.size)
  have X52 := hide X5.out
  clear hw hg ba
  go_wp2_with fail
  refine (ld_new w2 200 (by decide) (by decide)).mono ?_
  rintro r w3 ⟨d, rfl, hl⟩
  have L := hide hl
  clear hl
  replace X5 := hide (show Blk w3 g5 73 #[.int .i64 200, .int .i64 32, .int .i64 9] from X5.out.below L.out.bel)
  obtain ⟨y0, y1, y2⟩ := op3S X5.out
  go_wp2_with fail
  clear y0 y1 y2
  refine (first_yes 200 32 9 (kk : Int) _ (by omega) (by rw [segs200]; omega)).mono ?_
  rintro r w4 ⟨rfl, hb⟩
  replace X5 := hide (X5.out.below hb)
  replace L := hide (L.out.below hb)
  clear hb
  obtain ⟨a0, ha0⟩ : ∃ a : Nat, a = 3 + 32 * kk := ⟨_, rfl⟩
  have HA0 := hide ha0
  have hac : (3 : Int) + (kk : Int) * 32 = (a0 : Int) := by omega
  rw [hac]
  obtain ⟨en, hen⟩ : ∃ e : Nat, e = a0 + 32 := ⟨_, rfl⟩
  have HEN := hide hen
  have hae : IntKind.i64.wrap ((a0 : Int) + 32) = (en : Int) := by rw [IntKind.wrap_i64]; omega
  clear ha0 hac hen
  go_wp2_with fail
  clear hae
  go_loopw [8, 10, 11] (fun x y z wr => ∃ (i at_ : Nat) (A' : Option Addr) (c' : Nat) (vs : List PV) (D : Dsk), x = .int .i64 (at_ : Int) ∧ y = .slice A' i c' ∧ z = .int .i64 (i : Int) ∧ RwI w2 wr d a0 i at_ A' c' vs D) (fun _ _ z _ => 20 - (intOf z).toNat)
  case atStart => exact ⟨0, a0, none, 0, [], freshD 200, rfl, rfl, rfl, ⟨by omega, rfl, by decide, rfl, by simp, L.out, fresh_l _, rfl, fresh_len _, Nat.zero_le _, chn_fresh _ _, World.ownsRow_nil _ _ _ _⟩⟩
  case round =>
    clear L
    obtain ⟨i, at_, A', c', vs, D, rfl, rfl, rfl, hi⟩ := hrel
    have RI := hide hi
    have hi20 : i ≤ 20 := hi.i20
    clear hi
    by_cases hlt : i < m ∧ i < 20
    · obtain ⟨hlt, hlt2⟩ := hlt
      have h1 : (i : Int) < (m : Int) := by omega
      have h2 : (i : Int) < 20 := by omega
      replace HD := hide ((HD.out).below RI.out.ld.bel)
      obtain ⟨hl8, ad, rfl, h0⟩ := By.get HD.out hlt
      obtain ⟨un, hun⟩ : ∃ x : Nat, x = data[i].toNat := ⟨_, rfl⟩
      have hu8 : un < 256 := by rw [hun]; exact (data[i]).toNat_lt
      rw [← hun] at h0
      clear hun
      obtain ⟨q, hq⟩ : ∃ q, q = un % 6 := ⟨_, rfl⟩
      have hmod : (un : Int).tmod 6 = (q : Int) := by rw [Int.tmod_eq_emod_of_nonneg (by omega)]; omega
      have hq6 : q < 6 := by omega
      obtain ⟨n, hn⟩ : ∃ n, n = q + 1 := ⟨_, rfl⟩
      have hn1 : IntKind.i64.wrap ((q : Int) + 1) = (n : Int) := by rw [IntKind.wrap_i64]; omega
      have HNQ := hide (show 1 ≤ n ∧ n ≤ 6 by omega)
      clear hq hn
      go_upto_region 17 with fail
      have HAT := hide (show at_ = a0 + tot vs ∧ a0 + tot vs ≤ a0 + 32 from ⟨RI.out.at_, by have := RI.out.tl; omega⟩)
      have HATL : at_ ≤ 300 := by have := HAT.out; have := HA0.out; omega
      obtain ⟨p, hp⟩ : ∃ p, p = at_ + n := ⟨_, rfl⟩
      obtain ⟨r, hr⟩ : ∃ r, r = p + 2 := ⟨_, rfl⟩
      have HPR := hide (show p = at_ + n ∧ r = p + 2 from ⟨hp, hr⟩)
      have hs1 : IntKind.i64.wrap ((at_ : Int) + (n : Int)) = (p : Int) := by have := HNQ.out; rw [IntKind.wrap_i64]; omega
      have hs2 : IntKind.i64.wrap ((p : Int) + 2) = (r : Int) := by have := HNQ.out; rw [IntKind.wrap_i64]; omega
      clear hp hr hmod hn1 hu8 hq6
      by_cases hbr : (en : Int) < (r : Int)
      · clear h0
        have X5W := hide (X52.out.below RI.out.ld.bel)
        have WK := hide (walk_seg w2 wr d D RI.out.ld 200 32 9 (kk : Int) (by omega) (by rw [segs200]; omega) (by rw [RI.out.n]; decide) SP.out vs (by
          have := chn_walk RI.out.n HK6 a0 vs RI.out.ch (by have := HA0.out; omega) (by have := HA0.out; have := RI.out.tl; omega)
          have e1 : ((3 + 32 * kk + 32 : Nat) : Int) = 3 + (kk : Int) * 32 + 32 := by omega
          have e2 : (a0 : Int) = 3 + (kk : Int) * 32 := by have := HA0.out; omega
          rw [e1, e2] at this
          exact this))
        have e2 : (3 : Int) + (kk : Int) * 32 = (a0 : Int) := by have := HA0.out; omega
        rw [e2] at WK
        clear e2
        obtain ⟨y0, y1, y2⟩ := op3S X5W.out
        go_wp2_with fail
        clear y0 y1 y2
        refine WK.out.mono ?_
        rintro r w4 ⟨⟨A4, c4, cs4, rfl, hfr⟩, hb⟩
        have FR := hide hfr
        have OW := hide (own_bel RI.out.own hb)
        have BWE := hide (BW.out.trans ((RI.out.ld.bel.mono BW.out.size).trans (hb.mono (Nat.le_trans BW.out.size RI.out.ld.sz))))
        clear hfr hb WK
        have HLN := hide RI.out.len
        rw [RI.out.len]
        have HCT := hide RI.out.cnt
        go_wp2_with fail
        go_loopw [129] (fun y wz => ∃ j : Nat, j ≤ i ∧ y = .int .i64 (j : Int) ∧ Below w4.heap.size w4 wz) (fun y _ => i - (intOf y).toNat)
        case atStart => exact ⟨0, Nat.zero_le _, rfl, Below.refl _ _⟩
        case round =>
          obtain ⟨j, hj, rfl, hbz⟩ := hrel
          by_cases hji : j < i
          · have hjs : (j : Int) < (i : Int) := by omega
            obtain ⟨pp, hpp⟩ := adS_some (a0 : Int) vs j (by rw [HLN.out]; exact hji)
            obtain ⟨gl, rfl, x0, -, x2, -⟩ := (FR.out.below hbz).at hpp
            obtain ⟨gw, uw, rfl, -, -, hxs, xw, -, -⟩ := own_set1 (own_bel OW.out hbz) hji
            have hpc := HCT.out j pp.2 (adS_get _ _ _ _ hpp)
            rw [intC, List.getElem?_map, List.getElem?_map, hpp] at hxs
            simp only [Option.map_some, Option.some.injEq] at hxs
            subst hxs
            obtain ⟨p1, p2⟩ := pp
            dsimp only at x0 x2 xw hpc
            rw [hpc] at x2
            have ne1 : (p1 != p1) = false := by simp
            have hj9 : (j : Int) < (i : Int) := hjs
            have HBZ := hide hbz
            clear hpc hpp hbz
            go_upto_region 35 with fail
            go_quiet (fail)
            go_wp2_with fail
            go_roundw
            case rel => exact ⟨j + 1, by omega, by go_num, bel_dN HBZ.out nq⟩
            case measure => simp [intOf]; omega
          · have hjs : ¬ (j : Int) < (i : Int) := by omega
            go_wp2_with fail
            go_ret
            exact ⟨rfl, BWE.out.trans (hbz.mono BWE.out.size)⟩
      obtain ⟨x, hx⟩ : ∃ x, x = nxR at_ n := ⟨_, rfl⟩
      have HX := hide hx
      have hxm : (r : Int).tmod 190 = (x : Int) := by
        rw [Int.tmod_eq_emod_of_nonneg (by omega), hx]
        unfold nxR
        have := HPR.out
        omega
      clear hx
      go_upto_region 19 with fail
      obtain ⟨w5, hw⟩ : ∃ W, W = wr.alloc (.cells #[.int .i64 1, .int .i64 (i : Int), .int .i64 0, .int .i64 1, .int .i64 (x : Int), .slice none 0 0, .slice none 0 0] 25) := ⟨_, rfl⟩
      have ba := (show Below wr.heap.size wr w5 by rw [hw]; exact (Below.refl _ _).alloc (Nat.le_refl _) _)
      have X13 : Hid (Blk w5 wr.heap.size 25 #[.int .i64 1, .int .i64 (i : Int), .int .i64 0, .int .i64 1, .int .i64 (x : Int), .slice none 0 0, .slice none 0 0]) := hide (by rw [hw]; exact Blk.new _ _ _)
      rw [← hw]
      obtain ⟨g13, hg⟩ : ∃ g, g = wr.heap.size := ⟨_, rfl⟩
      have G13 := hide hg
      rw [← hg] at X13 ba ⊢
      have B5 := hide ba
      clear hw hg ba hxm hs1 hs2 h0
      have RI0 := hide RI.out.ld.bel.size
      obtain ⟨wo, rfl⟩ : ∃ W, W = wr := ⟨_, rfl⟩
      go_wp2_with fail
      go_loopw [14] (fun y wz => ∃ (j : Nat) (Aj : Option Addr) (cj : Nat), j ≤ n ∧ y = .int .i64 (j : Int) ∧ Blk wz g13 25 #[.int .i64 1, .int .i64 (i : Int), .int .i64 0, .int .i64 1, .int .i64 (x : Int), .slice none 0 0, .slice Aj j cj] ∧ wz.ownsRow g13 3 1 (.slice Aj j cj) j (intC (upTo j)) ∧ Below g13 wo wz) (fun y _ => n - (intOf y).toNat)
      case atStart => exact ⟨0, none, 0, Nat.zero_le _, rfl, X13.out, World.ownsRow_nil _ _ _ _, B5.out⟩
      case round =>
        clear X13 B5
        obtain ⟨j, Aj, cj, hj, rfl, hX, ho, hb⟩ := hrel
        have X13 := hide hX
        have O := hide ho
        have B5 := hide hb
        clear hX ho hb
        by_cases hjn : j < n
        · have hjs : (j : Int) < (n : Int) := by omega
          obtain ⟨j1, hj1⟩ : ∃ j1, j1 = j + 1 := ⟨_, rfl⟩
          have hjw : IntKind.i64.wrap ((j : Int) + 1) = (j1 : Int) := by have := HNQ.out; rw [IntKind.wrap_i64]; omega
          have HJ1 := hide hj1
          have hj100 : j ≤ 1000 := by have := HNQ.out; omega
          clear hj1
          have y6 := X13.out.cell 6
          simp only [List.getElem?_toArray, List.getElem?_cons_succ, List.getElem?_cons_zero] at y6
          have HS5 := hide B5.out.size
          go_wp2_with (
            at_builtin
            refine wpList_app _ rfl (.tmp 80) (.tmp 83) _ rfl etyJ g13 (.slice Aj j cj) j _ rfl (own_bel O.out ((Below.refl _ _).alloc (Nat.le_refl _) (.cells #[.int .i64 (j1 : Int)] 3))) (wr.heap.size + 1) (some ⟨wr.heap.size, 0, none⟩) 1 1 [.int .i64 (j1 : Int)] rfl (one_int wr _) (by intro u hu; rw [List.mem_singleton] at hu; rw [hu]; rfl) (by omega) (by have := X13.out.lt; simp; omega) ?_
            intro A3 c3 w6 ho hg ha
            have ba := (Below.refl wr.heap.size wr).alloc (Nat.le_refl _) (.cells #[.int .i64 (j1 : Int)] 3)
            have OO := own_bel O.out ba
            have O3 := hide ho
            have X13' := hide (blk_grT (X13.out.below ba) OO (by decide) hg)
            have B5' := hide ((B5.out.trans (ba.mono (Nat.le_of_lt X13.out.lt))).grown hg (by have := X13.out.lt; have := ba.size; omega) (fun g hg => (OO.lt g hg).1))
            have z6 := X13'.out.frozen 6
            have y6' := X13'.out.cell 6
            simp only [List.getElem?_toArray, List.getElem?_cons_succ, List.getElem?_cons_zero] at y6'
            clear ho hg ha ba OO)
          clear y6 y6' z6
          go_roundw
          case rel =>
            obtain rfl : j1 = j + 1 := HJ1.out
            have XF := X13'.out.set 6 (.slice A3 (j + 1) c3)
            simp only [List.setIfInBounds_toArray, List.set_cons_zero, List.set_cons_succ] at XF
            refine ⟨j + 1, A3, c3, by omega, rfl, XF, ?_, B5'.out.setCell (Nat.le_refl _) _⟩
            have h3 := own_ktR O3.out ((Kt.refl [25] g13 w6).set (p := ⟨g13, 6, none⟩) (.inl ⟨Nat.le_refl _, fun t cs hB => by simp [(Blk.type hB X13'.out).1]⟩) (.slice A3 (j + 1) c3)) (by decide)
            rw [intC_app] at h3
            rw [upTo_succ]
            exact h3
          case measure => have := HJ1.out; simp [intOf]; omega
        · obtain rfl : j = n := by omega
          have hjs : ¬ (j : Int) < (j : Int) := by omega
          replace RI := hide (RI.out.below (by rw [← G13.out]; exact B5.out))
          have GW := hide (show w2.heap.size ≤ g13 by rw [G13.out]; exact RI0.out)
          clear B5
          obtain ⟨s1, hs1⟩ : ∃ s1, s1 = 32 * kk := ⟨_, rfl⟩
          obtain ⟨s2, hs2⟩ : ∃ s2, s2 = 3 + s1 := ⟨_, rfl⟩
          obtain ⟨s3, hs3⟩ : ∃ s3, s3 = x + 2 := ⟨_, rfl⟩
          have HNX := hide (nxR_ok (n := j) HK6 (at_ := at_) (by have := HAT.out; have := HA0.out; omega) (by have := HPR.out; have := HEN.out; have := HA0.out; omega))
          rw [← HX.out] at HNX
          have hx200 : x < 200 := by have := HNX.out; omega
          have hw1 : IntKind.i64.wrap (32 * (kk : Int)) = (s1 : Int) := by rw [IntKind.wrap_i64]; omega
          have hw2 : IntKind.i64.wrap (3 + (s1 : Int)) = (s2 : Int) := by rw [IntKind.wrap_i64]; omega
          have hw3 : IntKind.i64.wrap ((x : Int) + 2) = (s3 : Int) := by rw [IntKind.wrap_i64]; omega
          have HS := hide (And.intro hs1 (And.intro hs2 hs3))
          clear hs1 hs2 hs3
          have y4 := X13.out.cell 4
          simp only [List.getElem?_toArray, List.getElem?_cons_succ, List.getElem?_cons_zero] at y4
          go_upto_region 23 with fail
          go_cut [98] (fun v wx => v = .bool false ∧ wx = wr)
          case first =>
            rcases (show ¬ x < at_ ∨ (x < at_ ∧ ¬ s2 < s3) by have := HNX.out; have := HS.out; omega) with h | ⟨h, h'⟩
            · have h1 : ¬ (x : Int) < (at_ : Int) := by omega
              clear h
              go_wp2_with fail
              go_meet
              exact ⟨rfl, rfl⟩
            · have h1 : (x : Int) < (at_ : Int) := by omega
              have h2 : ¬ (s2 : Int) < (s3 : Int) := by omega
              clear h h'
              go_wp2_with fail
              go_meet
              exact ⟨rfl, rfl⟩
          case rest =>
            obtain ⟨rfl, rfl⟩ := hcut
            clear hw1 hw2 hw3 y4
            go_upto_region 25 with fail
            have hy := op7 X13.out
            refine wp_region_noPanic ?_
            refine wp_region_held_drew (S := (fun w' => w'.cell? ⟨g13, 0, none⟩ = some (.int .i64 1) ∧ w'.cell? ⟨g13, 1, none⟩ = some (.int .i64 (i : Int)) ∧ w'.cell? ⟨g13, 2, none⟩ = some (.int .i64 0) ∧ w'.cell? ⟨g13, 3, none⟩ = some (.int .i64 1) ∧ w'.cell? ⟨g13, 4, none⟩ = some (.int .i64 (x : Int)) ∧ w'.cell? ⟨g13, 5, none⟩ = some (.slice none 0 0) ∧ w'.cell? ⟨g13, 6, none⟩ = some (.slice Aj j cj))) (by kernel_rfl) ?_ (fun hHeld => ?_)
            · ((try dsimp only) <;> (first | trivial | assumption | go_keep))
            clear hy
            replace RI := hide (RI.out.below (Below.refl _ _).drew)
            replace X13 := hide X13.out.drew
            replace O := hide (own_bel O.out (Below.refl _ _).drew)
            generalize wc.drew = w6 at *
            obtain ⟨u, hu⟩ : ∃ u, u = UInt8.ofNat i := ⟨_, rfl⟩
            have hcv : IntKind.u8.wrap (i : Int) = (((UInt8.ofNat i).toNat : Nat) : Int) := by
              rw [UInt8.toNat_ofNat']
              simp [IntKind.wrap, IntKind.bits, IntKind.signed]
            rw [← hu] at hcv
            clear hu
            refine tk 0 ?_
            refine tk 1 ?_
            refine tk 2 ?_
            refine tk 3 ?_
            refine tk 4 ?_
            refine tk 5 ?_
            refine wpAnyH_ready (rs := [6]) (by kernel_rfl) (by simp) ?_
            refine AllReadyH.cons (by simp only [List.getElem?_toArray, List.getElem?_cons_succ, List.getElem?_cons_zero]; rfl) (fun K hK => ?_) ?_
            rotate_left 1
            · exact AllReadyH.nil
            go_simp
            refine hK.out _ _ ?_ (fun hHeld2 => ?_)
            · ((try dsimp only) <;> (first | trivial | assumption | go_keep))
            clear hHeld
            have hHeld := hHeld2
            clear hHeld2 hK K
            try simp only [Act.put, List.setIfInBounds_toArray, List.set_cons_zero, List.set_cons_succ]
            have ba := (Below.refl w6.heap.size w6).alloc (Nat.le_refl _) (.cells #[.int .u8 ((u.toNat : Nat) : Int)] 5)
            have HBY : Hid (By (w6.alloc (.cells #[.int .u8 ((u.toNat : Nat) : Int)] 5)) (w6.alloc (.cells #[.int .u8 ((u.toNat : Nat) : Int)] 5)).heap.size (some ⟨w6.heap.size, 0, none⟩) 1 [u]) := hide (by_blk (l := [u]) (Blk.new w6 5 #[.int .u8 ((u.toNat : Nat) : Int)]) rfl)
            replace RI := hide (RI.out.below ba)
            replace X13 := hide (X13.out.below ba)
            replace O := hide (own_bel O.out ba)
            obtain ⟨g20, hg⟩ : ∃ g, g = w6.heap.size := ⟨_, rfl⟩
            rw [← hg] at HBY ⊢
            clear ba hg
            generalize w6.alloc (.cells #[.int .u8 ((u.toNat : Nat) : Int)] 5) = w7 at *
            clear hHeld
            have hHeld := op7 X13.out
            have hj6 : j ≤ 6 := HNQ.out.2
            have BC := hide (blocks_any (rwV i j x) none Aj 0 0 j cj 0 0 (some ⟨g20, 0, none⟩) 1 1 _ [u] w7 FisAt.nil (upTo_len j) (by decide) (by omega) (by show lsN [] ≤ 100000; decide) HBY.out (Nat.le_refl _) (by decide) (by decide))
            rw [show min (rwV i j x).n 200 - 2 = j by rw [rwV_n]; omega] at BC
            refine wpAnyH_ready (rs := [7]) (by kernel_rfl) (by simp) ?_
            refine AllReadyH.cons (by simp only [List.getElem?_toArray, List.getElem?_cons_succ, List.getElem?_cons_zero]; rfl) (fun K hK => ?_) ?_
            rotate_left 1
            · exact AllReadyH.nil
            go_simp
            refine BC.out.mono ?_; rintro r w8 ⟨A8, c8, gs, rfl, hR, hb⟩; have RT := hide hR; have S4 := hide RI.out.ld.sz; replace RI := hide (RI.out.below hb); replace X13 := hide (X13.out.below hb); replace O := hide (own_bel O.out hb); clear hR hb; have hy := op7 X13.out
            refine hK.out _ _ ?_ (fun hHeld2 => ?_)
            · ((try dsimp only) <;> (first | trivial | assumption | go_keep))
            clear hHeld
            have hHeld := hHeld2
            clear hHeld2 hK K
            try simp only [Act.put, List.setIfInBounds_toArray, List.set_cons_zero, List.set_cons_succ]
            clear hHeld BC HBY
            have hHeld := hy
            clear hy
            have WC := hide (write_any w2 w8 d D RI.out.ld (at_ : Int) (by unfold I64; omega) (rwV i j x) none Aj 0 0 j cj 0 0 SP.out FisAt.nil ((RwAt.of_own (base := w2.heap.size) O.out).lo_ (Nat.zero_le _)) (by decide) (by omega) (by show lsN [] ≤ 100000; decide) (by intro f hf; cases hf) A8 j c8 (blkS j [u]) (by have := (RT.out.bq S4.out).bs; rw [blkS_len] at this; exact this) (by omega) (by have := RI.out.s; omega) (by rw [RI.out.q]; exact Nat.zero_le _))
            obtain ⟨R, hR⟩ : ∃ R, R = wrS D (at_ : Int) (rwV i j x) (blkS j [u]) := ⟨_, rfl⟩
            rw [← hR] at WC
            have HST := hide (fun w' A2 c2 => RI.out.step (w' := w') (A2 := A2) (c2 := c2) (kk := kk) hR HA0.out HK6 HX.out (by omega) hj6 (by have := HPR.out; have := HEN.out; omega) (blkS_len _ _) (blkS_64 _ _))
            clear hR
            obtain ⟨q0, E⟩ := R
            obtain rfl : q0 = 0 := (HST.out w8 A8 c8).1
            dsimp only at WC HST
            refine wpAnyH_ready (rs := [8]) (by kernel_rfl) (by simp) ?_
            refine AllReadyH.cons (by simp only [List.getElem?_toArray, List.getElem?_cons_succ, List.getElem?_cons_zero]; rfl) (fun K hK => ?_) ?_
            rotate_left 1
            · exact AllReadyH.nil
            go_simp
            refine WC.out.mono ?_; rintro r w9 ⟨rfl, hst⟩; have K9 := hide (stp_kt RI.out.ld hst); have L9 := hide hst.ld; replace X13 := hide (X13.out.kt K9.out (by decide)); have OW := hide (own_ktR RI.out.own K9.out (by decide)); clear hst; have hy := op7 X13.out
            refine hK.out _ _ ?_ (fun hHeld2 => ?_)
            · ((try dsimp only) <;> (first | trivial | assumption | go_keep))
            clear hHeld
            have hHeld := hHeld2
            clear hHeld2 hK K
            try simp only [Act.put, List.setIfInBounds_toArray, List.set_cons_zero, List.set_cons_succ]
            clear hHeld WC K9 RT O S4 RI
            have hHeld := hy
            clear hy
            refine tk 9 ?_
            refine wpAnyH_done (by kernel_rfl) ?_ _
            refine NoPanic.normal ?_
            clear hHeld X13
            have hi100 : i ≤ 1000 := by omega
            obtain ⟨t1, ht1⟩ : ∃ t, t = j + 2 := ⟨_, rfl⟩
            obtain ⟨t2, ht2⟩ : ∃ t, t = at_ + t1 := ⟨_, rfl⟩
            have HT := hide (And.intro ht1 ht2)
            have hv1 : IntKind.i64.wrap ((j : Int) + 2) = (t1 : Int) := by rw [IntKind.wrap_i64]; omega
            have hv2 : IntKind.i64.wrap ((at_ : Int) + (t1 : Int)) = (t2 : Int) := by rw [IntKind.wrap_i64]; omega
            clear ht1 ht2
            have SZ := hide L9.out.sz
            go_wp2_with (
              at_builtin
              refine wpList_app _ rfl (.tmp 110) (.tmp 112) _ rfl etyJ w2.heap.size (.slice A' i c') i _ rfl (own_bel OW.out ((Below.refl _ _).alloc (Nat.le_refl _) (.cells #[.int .i64 (at_ : Int)] 3))) (w9.heap.size + 1) (some ⟨w9.heap.size, 0, none⟩) 1 1 [.int .i64 (at_ : Int)] rfl (one_int w9 _) (by intro u hu; rw [List.mem_singleton] at hu; rw [hu]; rfl) (by omega) (Nat.le_trans SZ.out (by simp)) ?_
              intro A3 c3 wz ho hg ha
              have ba := (Below.refl w9.heap.size w9).alloc (Nat.le_refl _) (.cells #[.int .i64 (at_ : Int)] 3)
              have OO := own_bel OW.out ba
              have O3 := hide ho
              have LZ := hide ((L9.out.below ba).kpO (kp_growO hg) (fun k hk => by
                have hk' : (Value.slice A' i c').ownBlock = some k := by simpa using hk
                obtain ⟨h1, cs, hB⟩ := own_blkO OO hk'
                exact ⟨h1, out_typeO (L9.out.below ba) hB (by decide)⟩))
              clear ho hg ha ba OO)
            go_roundw
            case rel =>
              have RN := (HST.out wz A3 c3).2 LZ.out O3.out
              have e : t2 = at_ + (j + 2) := by have := HT.out; omega
              rw [← e] at RN
              exact ⟨i + 1, t2, A3, c3, vs ++ [rwV i j x], E, rfl, rfl, by go_num, RN⟩
            case measure => simp [intOf]; omega
    · rcases (show ¬ i < m ∨ (i < m ∧ ¬ i < 20) by omega) with h | ⟨h, h'⟩
      · have h1 : ¬ (i : Int) < (m : Int) := by omega
        clear h hlt
        have X5W := hide (X52.out.below RI.out.ld.bel)
        have WK := hide (walk_seg w2 wr d D RI.out.ld 200 32 9 (kk : Int) (by omega) (by rw [segs200]; omega) (by rw [RI.out.n]; decide) SP.out vs (by
          have := chn_walk RI.out.n HK6 a0 vs RI.out.ch (by have := HA0.out; omega) (by have := HA0.out; have := RI.out.tl; omega)
          have e1 : ((3 + 32 * kk + 32 : Nat) : Int) = 3 + (kk : Int) * 32 + 32 := by omega
          have e2 : (a0 : Int) = 3 + (kk : Int) * 32 := by have := HA0.out; omega
          rw [e1, e2] at this
          exact this))
        have e2 : (3 : Int) + (kk : Int) * 32 = (a0 : Int) := by have := HA0.out; omega
        rw [e2] at WK
        clear e2
        obtain ⟨y0, y1, y2⟩ := op3S X5W.out
        go_wp2_with fail
        clear y0 y1 y2
        refine WK.out.mono ?_
        rintro r w4 ⟨⟨A4, c4, cs4, rfl, hfr⟩, hb⟩
        have FR := hide hfr
        have OW := hide (own_bel RI.out.own hb)
        have BWE := hide (BW.out.trans ((RI.out.ld.bel.mono BW.out.size).trans (hb.mono (Nat.le_trans BW.out.size RI.out.ld.sz))))
        clear hfr hb WK
        have HLN := hide RI.out.len
        rw [RI.out.len]
        have HCT := hide RI.out.cnt
        go_wp2_with fail
        go_loopw [129] (fun y wz => ∃ j : Nat, j ≤ i ∧ y = .int .i64 (j : Int) ∧ Below w4.heap.size w4 wz) (fun y _ => i - (intOf y).toNat)
        case atStart => exact ⟨0, Nat.zero_le _, rfl, Below.refl _ _⟩
        case round =>
          obtain ⟨j, hj, rfl, hbz⟩ := hrel
          by_cases hji : j < i
          · have hjs : (j : Int) < (i : Int) := by omega
            obtain ⟨pp, hpp⟩ := adS_some (a0 : Int) vs j (by rw [HLN.out]; exact hji)
            obtain ⟨gl, rfl, x0, -, x2, -⟩ := (FR.out.below hbz).at hpp
            obtain ⟨gw, uw, rfl, -, -, hxs, xw, -, -⟩ := own_set1 (own_bel OW.out hbz) hji
            have hpc := HCT.out j pp.2 (adS_get _ _ _ _ hpp)
            rw [intC, List.getElem?_map, List.getElem?_map, hpp] at hxs
            simp only [Option.map_some, Option.some.injEq] at hxs
            subst hxs
            obtain ⟨p1, p2⟩ := pp
            dsimp only at x0 x2 xw hpc
            rw [hpc] at x2
            have ne1 : (p1 != p1) = false := by simp
            have hj9 : (j : Int) < (i : Int) := hjs
            have HBZ := hide hbz
            clear hpc hpp hbz
            go_upto_region 35 with fail
            go_quiet (fail)
            go_wp2_with fail
            go_roundw
            case rel => exact ⟨j + 1, by omega, by go_num, bel_dN HBZ.out nq⟩
            case measure => simp [intOf]; omega
          · have hjs : ¬ (j : Int) < (i : Int) := by omega
            go_wp2_with fail
            go_ret
            exact ⟨rfl, BWE.out.trans (hbz.mono BWE.out.size)⟩
      · have h1 : (i : Int) < (m : Int) := by omega
        have h2 : ¬ (i : Int) < 20 := by omega
        clear h h' hlt
        have X5W := hide (X52.out.below RI.out.ld.bel)
        have WK := hide (walk_seg w2 wr d D RI.out.ld 200 32 9 (kk : Int) (by omega) (by rw [segs200]; omega) (by rw [RI.out.n]; decide) SP.out vs (by
          have := chn_walk RI.out.n HK6 a0 vs RI.out.ch (by have := HA0.out; omega) (by have := HA0.out; have := RI.out.tl; omega)
          have e1 : ((3 + 32 * kk + 32 : Nat) : Int) = 3 + (kk : Int) * 32 + 32 := by omega
          have e2 : (a0 : Int) = 3 + (kk : Int) * 32 := by have := HA0.out; omega
          rw [e1, e2] at this
          exact this))
        have e2 : (3 : Int) + (kk : Int) * 32 = (a0 : Int) := by have := HA0.out; omega
        rw [e2] at WK
        clear e2
        obtain ⟨y0, y1, y2⟩ := op3S X5W.out
        go_wp2_with fail
        clear y0 y1 y2
        refine WK.out.mono ?_
        rintro r w4 ⟨⟨A4, c4, cs4, rfl, hfr⟩, hb⟩
        have FR := hide hfr
        have OW := hide (own_bel RI.out.own hb)
        have BWE := hide (BW.out.trans ((RI.out.ld.bel.mono BW.out.size).trans (hb.mono (Nat.le_trans BW.out.size RI.out.ld.sz))))
        clear hfr hb WK
        have HLN := hide RI.out.len
        rw [RI.out.len]
        have HCT := hide RI.out.cnt
        go_wp2_with fail
        go_loopw [129] (fun y wz => ∃ j : Nat, j ≤ i ∧ y = .int .i64 (j : Int) ∧ Below w4.heap.size w4 wz) (fun y _ => i - (intOf y).toNat)
        case atStart => exact ⟨0, Nat.zero_le _, rfl, Below.refl _ _⟩
        case round =>
          obtain ⟨j, hj, rfl, hbz⟩ := hrel
          by_cases hji : j < i
          · have hjs : (j : Int) < (i : Int) := by omega
            obtain ⟨pp, hpp⟩ := adS_some (a0 : Int) vs j (by rw [HLN.out]; exact hji)
            obtain ⟨gl, rfl, x0, -, x2, -⟩ := (FR.out.below hbz).at hpp
            obtain ⟨gw, uw, rfl, -, -, hxs, xw, -, -⟩ := own_set1 (own_bel OW.out hbz) hji
            have hpc := HCT.out j pp.2 (adS_get _ _ _ _ hpp)
            rw [intC, List.getElem?_map, List.getElem?_map, hpp] at hxs
            simp only [Option.map_some, Option.some.injEq] at hxs
            subst hxs
            obtain ⟨p1, p2⟩ := pp
            dsimp only at x0 x2 xw hpc
            rw [hpc] at x2
            have ne1 : (p1 != p1) = false := by simp
            have hj9 : (j : Int) < (i : Int) := hjs
            have HBZ := hide hbz
            clear hpc hpp hbz
            go_upto_region 35 with fail
            go_quiet (fail)
            go_wp2_with fail
            go_roundw
            case rel => exact ⟨j + 1, by omega, by go_num, bel_dN HBZ.out nq⟩
            case measure => simp [intOf]; omega
          · have hjs : ¬ (j : Int) < (i : Int) := by omega
            go_wp2_with fail
            go_ret
            exact ⟨rfl, BWE.out.trans (hbz.mono BWE.out.size)⟩
end Go.Proofs.YtlobkefacnedeaaDoor

/- The walk of seg.batch. -/
namespace Go.Proofs.YtlobkefacnedeaaDoor
open Go.RowKit
set_option maxRecDepth 100000
attribute [local go_sem ↓] Go.wp_at_zero Go.wp_at_succ

def BtAns (fin : Bool) (a : Int) (vs : List PV) (base : Nat) (r : Ending) (w' : World) : Prop :=
  if fin = true then ∃ A c cs, r = .returned (.tuple #[.slice A vs.length c, .bool true]) ∧ FdRow base w' A c cs (adX a vs) else r = .returned (.tuple #[.slice none 0 0, .bool false])
theorem wi_bd {D : Dsk} {b s i a : Int} (h : ∃ v bs, wiS D b s i a = (0, v, bs)) : 0 ≤ a ∧ a ≤ D.sure.length := by
  obtain ⟨v, bs, h⟩ := h
  obtain ⟨-, hr, -⟩ := wiS_ck h
  obtain ⟨k, _, rfl, h2, -⟩ := rdS_inv hr
  omega
set_option maxHeartbeats 8000000 in
theorem batch_any (w0 w : World) (d : Nat) (D : Dsk) (h : LD w0 w d D) (b s i a0 ep c0 : Int) (ha0 : I64 a0) (hc0 : I64 c0) (n : Nat) (fin : Bool) (sp : SpanAt w0) (vs : List PV) (hv : isB D b s i ep n fin a0 c0 0 vs) (hf : fin = true → vs ≠ []) :
    Calls Tryd.prog 62 #[.pointer (some ⟨d, 0, none⟩), geoV b s i, .int .i64 a0, .int .i64 ep, .int .i64 c0] w fun r w' => BtAns fin a0 vs w.heap.size r w' ∧ Below w.heap.size w w' := by
  have H := hide h
  have SP := hide sp
  have HV := hide hv
  have HF := hide hf
  have H64 := hide (And.intro ha0 hc0)
  clear h sp hv hf ha0 hc0
  go_enter Tryd.func62, Tryd.ntmps62
  go_upto_region 1 with fail
  obtain ⟨w1, hw⟩ : ∃ W, W = w.alloc (.cells #[.int .i64 b, .int .i64 s, .int .i64 i] 73) := ⟨_, rfl⟩
  have X6 : Hid (Blk w1 w.heap.size 73 #[.int .i64 b, .int .i64 s, .int .i64 i]) := hide (by rw [hw]; exact Blk.new _ _ _)
  have BW : Hid (Below w.heap.size w w1) := hide (by rw [hw]; exact (Below.refl _ _).alloc (Nat.le_refl _) _)
  rw [← hw]
  obtain ⟨g6, hg⟩ : ∃ g, g = w.heap.size := ⟨_, rfl⟩
  rw [← hg] at X6 ⊢
  clear hw hg
  go_wp2_with fail
  go_loopw [2, 4, 12] (fun x2 x4 x12 wr => ∃ (a c : Int) (j : Nat) (A : Option Addr) (cc : Nat) (cs : List (List Value)) (pre : List (Int × PV)) (rest : List PV), x2 = .int .i64 a ∧ x4 = .int .i64 c ∧ x12 = .slice A j cc ∧ I64 a ∧ I64 c ∧ j = pre.length ∧ adX a0 vs = pre ++ adX a rest ∧ isB D b s i ep n fin a c j rest ∧ (fin = true → rest ≠ []) ∧ (0 < j → n ≤ 64) ∧ (∀ p, pre[0]? = some p → p.2.p = (n : Int)) ∧ FdRow w.heap.size wr A cc cs pre ∧ Blk wr g6 73 #[.int .i64 b, .int .i64 s, .int .i64 i] ∧ Below w.heap.size w wr) (fun _ _ x _ => n - (match x with | .slice _ k _ => k | _ => 0))
  case atStart => exact ⟨a0, c0, 0, none, 0, [], [], vs, rfl, rfl, rfl, H64.out.1, H64.out.2, rfl, rfl, HV.out, HF.out, fun h => absurd h (Nat.lt_irrefl 0), by simp, FdRow.nil, X6.out, BW.out⟩
  case round =>
    obtain ⟨a, c, j, A, cc, cs, pre, rest, rfl, rfl, rfl, ha, hc, hj, hps, hib, hfr, hn64, hp0, hF, hX, hb⟩ := hrel
    have HA := hide ha
    have HC := hide hc
    have HJ := hide hj
    have HPS := hide hps
    have HIB := hide hib
    have HFR := hide hfr
    have HN64 := hide hn64
    have HP0 := hide hp0
    have FR := hide hF
    replace X6 := hide hX
    replace BW := hide hb
    clear ha hc hj hps hib hfr hn64 hp0 hF hX hb
    have WC := hide (within_seg w0 wr d D (H.out.below BW.out) b s i a HA.out SP.out)
    obtain ⟨y0, y1, y2⟩ := op3S X6.out
    go_wp2_with fail
    clear y0 y1 y2
    refine WC.out.mono ?_
    rintro r w4 ⟨hwa, hb⟩
    replace X6 := hide (X6.out.below hb)
    replace FR := hide (FR.out.below hb)
    have W4 := hide BW.out.size
    replace BW := hide (BW.out.trans (hb.mono BW.out.size))
    clear hb WC
    cases rest with
    | nil =>
      have hfin : fin = false := by
        cases fin with
        | false => rfl
        | true => exact absurd rfl (HFR.out rfl)
      subst hfin
      have hk := HIB.out
      unfold isB at hk
      rw [if_neg (by decide)] at hk
      obtain ⟨a', v, B1, d1, B2, d2, A3, N3, c3, rfl⟩ := hwa.no hk.2
      clear hk hwa HIB HFR HPS
      unfold fdC
      go_upto_region 3 with fail
      obtain ⟨w5, hw⟩ : ∃ W, W = w4.alloc (.cells #[.int .i64 a', .int .i64 v.e, .int .i64 v.c, .int .i64 v.i, .int .i64 v.p, .int .i64 v.x, .slice B1 v.fs.length d1, .slice B2 v.is.length d2, .slice A3 N3 c3] 39) := ⟨_, rfl⟩
      have X13 : Hid (Blk w5 w4.heap.size 39 #[.int .i64 a', .int .i64 v.e, .int .i64 v.c, .int .i64 v.i, .int .i64 v.p, .int .i64 v.x, .slice B1 v.fs.length d1, .slice B2 v.is.length d2, .slice A3 N3 c3]) := hide (by rw [hw]; exact Blk.new _ _ _)
      replace BW := hide (BW.out.trans ((show Below w4.heap.size w4 w5 by rw [hw]; exact (Below.refl _ _).alloc (Nat.le_refl _) _).mono BW.out.size))
      rw [← hw]
      generalize w4.heap.size = g13 at *
      clear hw
      obtain ⟨x0, x1, x2, x3, x4, x5, x6, x7, x8⟩ := op9S X13.out
      go_upto_region 4 with fail
      clear x0 x1 x2 x3 x4 x5 x6 x7 x8
      refine wp_region_noPanic ?_
      refine wp_region_held_drew (S := (fun _ => True)) (by kernel_rfl) ?_ (fun hHeld => ?_)
      · ((try dsimp only) <;> (first | trivial | assumption | go_keep))
      refine tk 0 ?_
      refine tk 1 ?_
      refine tk 2 ?_
      refine sk 3 ?_
      refine sk 4 ?_
      refine sk 5 ?_
      refine sk 6 ?_
      refine tk 7 ?_
      refine tk 8 ?_
      refine sk 9 ?_
      refine sk 10 ?_
      refine sk 11 ?_
      refine sk 12 ?_
      refine tk 13 ?_
      refine tk 14 ?_
      refine sk 15 ?_
      refine sk 16 ?_
      refine sk 17 ?_
      refine sk 18 ?_
      refine sk 19 ?_
      refine tk 20 ?_
      refine tk 21 ?_
      refine sk 22 ?_
      refine sk 23 ?_
      refine sk 24 ?_
      refine sk 25 ?_
      refine sk 26 ?_
      refine sk 27 ?_
      refine sk 28 ?_
      refine sk 29 ?_
      refine sk 30 ?_
      refine sk 31 ?_
      refine sk 32 ?_
      refine sk 33 ?_
      refine sk 34 ?_
      refine tk 35 ?_
      refine wpAnyH_done (by kernel_rfl) ?_ _
      refine NoPanic.normal ?_
      clear hHeld
      go_wp2_with fail
      go_ret2
      refine ⟨?_, ?_⟩
      · unfold BtAns
        rw [if_neg (by decide)]
        rfl
      · exact (BW.out.alloc BW.out.size _).drew
    | cons v rest =>
      have hk := HIB.out
      unfold isB at hk
      obtain ⟨hjn, h2, ⟨bs, h3⟩, q1, q2, q3, q4, hib⟩ := hk
      have HCK := hide (wiS_ck h3)
      have HIB2 := hide hib
      have HQ := hide (And.intro q1 (And.intro q2 (And.intro q3 q4)))
      have HJN := hide hjn
      obtain ⟨B1, d1, B2, d2, A3, c3, gs, rfl, hfd⟩ := hwa.yes h2 h3
      obtain ⟨N3, hN3⟩ : ∃ x, x = bs.length := ⟨_, rfl⟩
      rw [← hN3]
      have FD := hide (hfd.dn W4.out)
      clear hwa h2 h3 hfd hN3 q1 q2 q3 q4 hib hjn HIB
      have HGD := hide (PV.gd HCK.out.1).1.1
      unfold fdC
      go_upto_region 3 with fail
      obtain ⟨w5, hw⟩ : ∃ W, W = w4.alloc (.cells #[.int .i64 a, .int .i64 v.e, .int .i64 v.c, .int .i64 v.i, .int .i64 v.p, .int .i64 v.x, .slice B1 v.fs.length d1, .slice B2 v.is.length d2, .slice A3 N3 c3] 39) := ⟨_, rfl⟩
      have ba := (show Below w4.heap.size w4 w5 by rw [hw]; exact (Below.refl _ _).alloc (Nat.le_refl _) _)
      have X13 : Hid (Blk w5 w4.heap.size 39 #[.int .i64 a, .int .i64 v.e, .int .i64 v.c, .int .i64 v.i, .int .i64 v.p, .int .i64 v.x, .slice B1 v.fs.length d1, .slice B2 v.is.length d2, .slice A3 N3 c3]) := hide (by rw [hw]; exact Blk.new _ _ _)
      rw [← hw]
      obtain ⟨g13, hg⟩ : ∃ g, g = w4.heap.size := ⟨_, rfl⟩
      have HFO := hide (show ∀ g, (Value.slice A j cc).ownBlock = some g → g ≠ g13 from fun g hg' => by
        rw [HJ.out] at hg'
        have := (FR.out.own.lt g hg').2
        omega)
      rw [← hg] at X13 ⊢
      replace X6 := hide (X6.out.below ba)
      replace FR := hide (FR.out.below ba)
      replace FD := hide (FD.out.below ba)
      replace BW := hide (BW.out.trans (ba.mono BW.out.size))
      clear hw hg ba
      obtain ⟨x0, x1, x2, x3, x4, x5, x6, x7, x8⟩ := op9S X13.out
      go_upto_region 4 with fail
      clear x0 x1 x2 x3 x4 x5 x6 x7 x8
      obtain ⟨w6, hw⟩ : ∃ W, W = w5.alloc (.cells #[.int .i64 v.e, .int .i64 v.c, .int .i64 v.i, .int .i64 v.p, .int .i64 v.x, .slice B1 v.fs.length d1, .slice B2 v.is.length d2] 25) := ⟨_, rfl⟩
      have ba := (show Below w5.heap.size w5 w6 by rw [hw]; exact (Below.refl _ _).alloc (Nat.le_refl _) _)
      have X15 : Hid (Blk w6 w5.heap.size 25 #[.int .i64 v.e, .int .i64 v.c, .int .i64 v.i, .int .i64 v.p, .int .i64 v.x, .slice B1 v.fs.length d1, .slice B2 v.is.length d2]) := hide (by rw [hw]; exact Blk.new _ _ _)
      rw [← hw]
      obtain ⟨g15, hg⟩ : ∃ g, g = w5.heap.size := ⟨_, rfl⟩
      rw [← hg] at X15 ⊢
      replace X6 := hide (X6.out.below ba)
      replace X13 := hide (X13.out.below ba)
      replace FR := hide (FR.out.below ba)
      replace FD := hide (FD.out.below ba)
      replace BW := hide (BW.out.trans (ba.mono BW.out.size))
      clear hw hg ba
      rw [HQ.out.1, HQ.out.2.1, HQ.out.2.2.1, HQ.out.2.2.2] at X15
      have ne1 : (ep != ep) = false := by simp
      have ne2 : (c != c) = false := by simp
      have ne3 : ((j : Int) != (j : Int)) = false := by simp
      have ne4 : ((n : Int) != (n : Int)) = false := by simp
      go_cut [60] (fun y wx => y = .bool false ∧ Below w6.heap.size w6 wx)
      case first =>
        by_cases hj0 : j = 0
        · have hcc : w6.cell? ⟨g15, 0, none⟩ = some (.int .i64 ep) ∧ w6.cell? ⟨g15, 1, none⟩ = some (.int .i64 c) ∧ w6.cell? ⟨g15, 2, none⟩ = some (.int .i64 (j : Int)) := ⟨X15.out.cell 0, X15.out.cell 1, X15.out.cell 2⟩
          clear ne4
          have HJ0 := hide hj0
          subst hj0
          refine wp_region_noPanic ?_
          refine wp_region_held_drew (S := (fun w' => w'.cell? ⟨g15, 0, none⟩ = some (.int .i64 ep) ∧ w'.cell? ⟨g15, 1, none⟩ = some (.int .i64 c) ∧ w'.cell? ⟨g15, 2, none⟩ = some (.int .i64 ((0 : Nat) : Int)))) (by kernel_rfl) ?_ (fun hHeld => ?_)
          · ((try dsimp only) <;> (first | trivial | assumption | go_keep))
          clear hcc
          refine tk 0 ?_
          refine tk 1 ?_
          refine tk 2 ?_
          refine tk 3 ?_
          refine tk 4 ?_
          refine tk 5 ?_
          refine tk 6 ?_
          refine tk 7 ?_
          refine tk 8 ?_
          refine tk 9 ?_
          refine tk 10 ?_
          refine tk 11 ?_
          refine tk 12 ?_
          refine tk 13 ?_
          refine tk 14 ?_
          refine tk 15 ?_
          refine tk 16 ?_
          refine tk 17 ?_
          refine tk 18 ?_
          refine tk 19 ?_
          refine tk 20 ?_
          refine tk 21 ?_
          refine tk 22 ?_
          refine tk 23 ?_
          refine tk 24 ?_
          refine tk 25 ?_
          refine sk 26 ?_
          refine sk 27 ?_
          refine sk 28 ?_
          refine sk 29 ?_
          refine sk 30 ?_
          refine sk 31 ?_
          refine sk 32 ?_
          refine sk 33 ?_
          refine tk 34 ?_
          refine tk 35 ?_
          refine wpAnyH_done (by kernel_rfl) ?_ _
          refine NoPanic.normal ?_
          clear hHeld
          go_wp2_with fail
          go_meet
          exact ⟨rfl, (Below.refl _ _).drew⟩
        · have h0j : 0 < j := Nat.pos_of_ne_zero hj0
          obtain ⟨p, hp⟩ : ∃ p, pre[0]? = some p := ⟨pre[0]'(by rw [← HJ.out]; exact h0j), List.getElem?_eq_getElem _⟩
          obtain ⟨gl, rfl, -, -, -, -, z4, -⟩ := FR.out.at hp
          rw [HP0.out p hp, Nat.zero_mul, Nat.zero_add] at z4
          clear hp
          have hcc : w6.cell? ⟨g15, 0, none⟩ = some (.int .i64 ep) ∧ w6.cell? ⟨g15, 1, none⟩ = some (.int .i64 c) ∧ w6.cell? ⟨g15, 2, none⟩ = some (.int .i64 (j : Int)) ∧ w6.cell? ⟨g15, 3, none⟩ = some (.int .i64 (n : Int)) ∧ w6.cell? ⟨gl, 4, none⟩ = some (.int .i64 (n : Int)) := ⟨X15.out.cell 0, X15.out.cell 1, X15.out.cell 2, X15.out.cell 3, z4⟩
          clear z4
          have h0i : (0 : Int) < (j : Int) := by omega
          refine wp_region_noPanic ?_
          refine wp_region_held_drew (S := (fun w' => w'.cell? ⟨g15, 0, none⟩ = some (.int .i64 ep) ∧ w'.cell? ⟨g15, 1, none⟩ = some (.int .i64 c) ∧ w'.cell? ⟨g15, 2, none⟩ = some (.int .i64 (j : Int)) ∧ w'.cell? ⟨g15, 3, none⟩ = some (.int .i64 (n : Int)) ∧ w'.cell? ⟨gl, 4, none⟩ = some (.int .i64 (n : Int)))) (by kernel_rfl) ?_ (fun hHeld => ?_)
          · ((try dsimp only) <;> (first | trivial | assumption | go_keep))
          clear hcc
          refine tk 0 ?_
          refine tk 1 ?_
          refine tk 2 ?_
          refine tk 3 ?_
          refine tk 4 ?_
          refine tk 5 ?_
          refine tk 6 ?_
          refine tk 7 ?_
          refine tk 8 ?_
          refine tk 9 ?_
          refine tk 10 ?_
          refine tk 11 ?_
          refine tk 12 ?_
          refine tk 13 ?_
          refine tk 14 ?_
          refine tk 15 ?_
          refine tk 16 ?_
          refine tk 17 ?_
          refine tk 18 ?_
          refine tk 19 ?_
          refine tk 20 ?_
          refine tk 21 ?_
          refine tk 22 ?_
          refine tk 23 ?_
          refine tk 24 ?_
          refine tk 25 ?_
          refine tk 26 ?_
          refine tk 27 ?_
          refine tk 28 ?_
          refine tk 29 ?_
          refine tk 30 ?_
          refine tk 31 ?_
          refine tk 32 ?_
          refine tk 33 ?_
          refine tk 34 ?_
          refine tk 35 ?_
          refine wpAnyH_done (by kernel_rfl) ?_ _
          refine NoPanic.normal ?_
          clear hHeld
          go_wp2_with fail
          go_meet
          exact ⟨rfl, (Below.refl _ _).drew⟩
      case rest =>
        obtain ⟨rfl, hbx⟩ := hcut
        replace X6 := hide (X6.out.below hbx)
        replace X13 := hide (X13.out.below hbx)
        replace X15 := hide (X15.out.below hbx)
        replace FR := hide (FR.out.below hbx)
        replace FD := hide (FD.out.below hbx)
        replace BW := hide (BW.out.trans (hbx.mono BW.out.size))
        clear hbx ne1 ne2 ne3 ne4
        obtain ⟨x0, x1, x2, x3, x4, x5, x6, x7, x8⟩ := op9S X13.out
        have O := hide FR.out.own
        rw [← HJ.out] at O
        have hn100 : j ≤ 100000 := by have := HGD.out; have := HJN.out; have := HQ.out.2.2.2; unfold gdH at *; omega
        have hwc : IntKind.i64.wrap (c + 1) = c + 1 := by have := HGD.out; have := HQ.out.2.1; unfold gdH at *; rw [IntKind.wrap_i64]; omega
        rcases Bool.eq_false_or_eq_true (((j + 1 : Nat) : Int) == (n : Int)) with he | he
        all_goals
          have HE := hide he
          clear he
          go_wp2_with (
            at_builtin
            refine wpList_appK rfl (.tmp 61) (.tmp 63) _ rfl etyFd w.heap.size (.slice A j cc) j _ rfl (own_bel O.out ((Below.refl _ _).alloc (Nat.le_refl _) (.cells #[.int .i64 a, .int .i64 v.e, .int .i64 v.c, .int .i64 v.i, .int .i64 v.p, .int .i64 v.x, .slice B1 v.fs.length d1, .slice B2 v.is.length d2, .slice A3 N3 c3] 39))) (wc.heap.size + 1) (some ⟨wc.heap.size, 0, none⟩) 1 1 (#[.int .i64 a, .int .i64 v.e, .int .i64 v.c, .int .i64 v.i, .int .i64 v.p, .int .i64 v.x, .slice B1 v.fs.length d1, .slice B2 v.is.length d2, .slice A3 N3 c3] : Array Value).toList rfl (slc_new wc _ _ rfl) (by intro u hu; simp only [List.mem_cons, List.not_mem_nil, or_false] at hu; rcases hu with rfl | rfl | rfl | rfl | rfl | rfl | rfl | rfl | rfl <;> rfl) (by omega) (Nat.le_trans BW.out.size (by simp)) ?_
            intro A6 c6 w7 ho hg ha
            have ba := (Below.refl wc.heap.size wc).alloc (Nat.le_refl _) (.cells #[.int .i64 a, .int .i64 v.e, .int .i64 v.c, .int .i64 v.i, .int .i64 v.p, .int .i64 v.x, .slice B1 v.fs.length d1, .slice B2 v.is.length d2, .slice A3 N3 c3] 39)
            have OO := own_bel O.out ba
            have K6 := Kt.gr (base := w.heap.size) (T := [39]) hg (fun g e => by
              obtain ⟨h1, cs, h2⟩ := own_blkT OO e
              exact ⟨h1, _, cs, h2, by simp⟩)
            have FD2 := (FD.out.below ba)
            have FR2 : Hid (∃ cs', FdRow w.heap.size w7 A6 c6 cs' (pre ++ [(a, v)])) := hide ⟨_, FdRow.app (FR.out.below ba) (x := (#[.int .i64 a, .int .i64 v.e, .int .i64 v.c, .int .i64 v.i, .int .i64 v.p, .int .i64 v.x, .slice B1 v.fs.length d1, .slice B2 v.is.length d2, .slice A3 N3 c3] : Array Value).toList) (p := (a, v)) ⟨B1, d1, B2, d2, A3, N3, c3, rfl, FD2.i⟩ (by rw [← HJ.out]; exact ho) (by rw [← HJ.out]; exact hg)⟩
            have X6' := hide (Blk.kt (X6.out.below ba) K6 (by decide))
            have X15' := hide (Blk.kt (X15.out.below ba) K6 (by decide))
            have BW' := hide ((BW.out.trans (ba.mono BW.out.size)).trans (K6.below (Nat.le_trans BW.out.size ba.size)))
            obtain ⟨j1, hj1⟩ : ∃ j1, j1 = j + 1 := ⟨_, rfl⟩
            have HJ1 := hide hj1
            rw [← hj1]
            have he1 := HE.out
            rw [← hj1] at he1
            have z3 := X15'.out.cell 3
            have z4 := X15'.out.cell 4
            clear ho hg ha ba OO K6 FD2 hj1
            simp only [List.getElem?_toArray, List.getElem?_cons_succ, List.getElem?_cons_zero] at z3 z4)

        · clear z3 z4 he1 hwc x0 x1 x2 x3 x4 x5 x6 x7 x8
          go_ret2
          have hn : j + 1 = n := by have := beq_iff_eq.1 HE.out; omega
          cases rest with
          | cons u rest =>
            have h := HIB2.out
            unfold isB at h
            omega
          | nil =>
            have h := HIB2.out
            unfold isB at h
            cases fin with
            | false => simp at h; omega
            | true =>
              have e : adX a0 vs = pre ++ [(a, v)] := by rw [HPS.out]; simp [adX]
              have e2 : j1 = vs.length := by rw [HJ1.out, HJ.out, ← adX_len a0 vs, e]; simp
              obtain ⟨cs', hf6⟩ := FR2.out
              refine ⟨?_, BW'.out⟩
              unfold BtAns
              rw [if_pos rfl, e, ← e2]
              exact ⟨A6, c6, cs', rfl, hf6⟩
        · clear z3 z4 he1 hwc x0 x1 x2 x3 x4 x5 x6 x7 x8
          go_roundw
          case rel =>
            obtain ⟨cs', hf6⟩ := FR2.out
            have hgd := HGD.out
            have hq := HQ.out
            unfold gdH at hgd
            have hnn : ¬ j + 1 = n := fun h => by have := beq_eq_false_iff_ne.1 HE.out; omega
            refine ⟨v.x, c + 1, j1, A6, c6, cs', pre ++ [(a, v)], rest, rfl, rfl, rfl, by unfold I64; omega, by unfold I64; omega, by rw [HJ1.out, HJ.out]; simp, by rw [HPS.out]; simp [adX], by rw [HJ1.out]; exact HIB2.out, fun hf => ?_, fun _ => by omega, fun p hp => ?_, hf6, X6'.out, BW'.out⟩
            · rintro rfl
              have h := HIB2.out
              unfold isB at h
              rw [if_pos hf] at h
              exact hnn h
            · cases pre with
              | nil =>
                simp at hp
                rw [← hp]
                exact hq.2.2.2
              | cons x pre => exact HP0.out p (by simpa using hp)
          case measure => have := HJ1.out; have := HJN.out; simp; omega
end Go.Proofs.YtlobkefacnedeaaDoor

/- The walk of seg.Scan. -/
namespace Go.Proofs.YtlobkefacnedeaaDoor
open Go.RowKit
set_option maxRecDepth 100000
attribute [local go_sem ↓] Go.wp_at_zero Go.wp_at_succ

theorem etyBt : Ety Tryd.prog 85 76 (.slice none 0 0) 24 := Ety.mk' Tryd.underlying85 (by kernel_rfl) rfl (by omega)
/-- Batches that were found. -/
structure BsRow (base : Nat) (w : World) (A : Option Addr) (c : Nat) (ss : List Value) (pss : List (List (Int × PV))) : Prop where
  len : ss.length = pss.length
  own : w.ownsRow base 76 1 (.slice A pss.length c) pss.length ss
  at_ : ∀ (j : Nat) (x : Value) (ps : List (Int × PV)), ss[j]? = some x → pss[j]? = some ps → ∃ A' c' cs, x = .slice A' ps.length c' ∧ FdRow base w A' c' cs ps
section
variable {base c : Nat} {w w' : World} {A : Option Addr} {ss : List Value} {pss : List (List (Int × PV))}
theorem BsRow.kt {T : List TypeId} (h : BsRow base w A c ss pss) (hk : Kt T base w w') (h1 : 39 ∉ T) (h2 : 3 ∉ T) (h3 : 76 ∉ T) : BsRow base w' A c ss pss :=
  ⟨h.len, own_ktR h.own hk h3, fun j x ps hx hp => by
    obtain ⟨A', c', cs, e, hf⟩ := h.at_ j x ps hx hp
    exact ⟨A', c', cs, e, hf.kt hk h1 h2⟩⟩
theorem BsRow.below (h : BsRow base w A c ss pss) (hb : Below w.heap.size w w') : BsRow base w' A c ss pss := h.kt (T := []) (Kt.of_below hb) (by simp) (by simp) (by simp)
theorem BsRow.nil : BsRow base w none 0 [] [] := ⟨rfl, World.ownsRow_nil _ _ _ _, by simp⟩
theorem FdRow.bq {base base' c : Nat} {w : World} {A : Option Addr} {cs : List (List Value)} {ps : List (Int × PV)} (h : FdRow base w A c cs ps) (hb : base' ≤ base) : FdRow base' w A c cs ps :=
  ⟨h.len, own_bq h.own hb, fun j x p hx hp => by
    obtain ⟨B1, d1, B2, d2, A3, n3, c3, e, hi⟩ := h.at_ j x p hx hp
    exact ⟨B1, d1, B2, d2, A3, n3, c3, e, RwAt.dn hi (Nat.le_refl _) hb⟩⟩
/-- One more, in the row that append has left. -/
theorem BsRow.app {c' c1 : Nat} {A' A1 : Option Addr} {cs : List (List Value)} {ps : List (Int × PV)} (h : BsRow base w A c ss pss) (hf : FdRow base w A1 c1 cs ps)
    (ho : w'.ownsRow base 76 1 (.slice A' (pss.length + 1) c') (pss.length + 1) (ss ++ [.slice A1 ps.length c1])) (hg : w.grownBy w' (Value.slice A pss.length c).ownBlock) : BsRow base w' A' c' (ss ++ [.slice A1 ps.length c1]) (pss ++ [ps]) := by
  have hk : Kt [76] base w w' := Kt.gr hg (fun g e => by
    obtain ⟨h1, cs, h2⟩ := own_blkO h.own e
    exact ⟨h1, _, cs, h2, by simp⟩)
  refine ⟨by simp [h.len], by rw [List.length_append, List.length_singleton]; exact ho, fun j y q hy hq => ?_⟩
  rcases Nat.lt_or_ge j ss.length with hj | hj
  · rw [List.getElem?_append_left hj] at hy
    rw [List.getElem?_append_left (by rw [← h.len]; exact hj)] at hq
    obtain ⟨A', c', cs, e, hf⟩ := h.at_ j y q hy hq
    exact ⟨A', c', cs, e, hf.kt hk (by decide) (by decide)⟩
  · rw [List.getElem?_append_right hj] at hy
    rw [List.getElem?_append_right (by rw [← h.len]; exact hj), ← h.len] at hq
    have hj0 : j - ss.length = 0 := by
      have := (List.getElem?_eq_some_iff.1 hy).1
      simpa using this
    rw [hj0] at hy hq
    simp only [List.getElem?_cons_zero, Option.some.injEq] at hy hq
    subst hy hq
    exact ⟨A1, c1, cs, rfl, hf.kt hk (by decide) (by decide)⟩
end
theorem FdRow.nx {base c j : Nat} {w : World} {A : Option Addr} {cs : List (List Value)} {ps : List (Int × PV)} {p : Int × PV} (h : FdRow base w A c cs ps) (hp : ps[j]? = some p) :
    ∃ g, A = some ⟨g, 0, none⟩ ∧ w.cell? ⟨g, j * 9 + 1 + 4, none⟩ = some (.int .i64 p.2.x) := by
  have hj := (List.getElem?_eq_some_iff.1 hp).1
  have hl := h.len
  have hx : cs[j]? = some (cs[j]'(by omega)) := List.getElem?_eq_getElem _
  have hall : ∀ x ∈ cs, x.length = 9 := fun x hm => by
    obtain ⟨i, hi, e⟩ := List.getElem_of_mem hm
    obtain ⟨B1, d1, B2, d2, A3, n3, c3, e2, -⟩ := h.at_ i x (ps[i]'(by omega)) (by rw [List.getElem?_eq_getElem hi, e]) (List.getElem?_eq_getElem _)
    rw [e2]; rfl
  obtain ⟨B1, d1, B2, d2, A3, n3, c3, e, hi⟩ := h.at_ j _ p hx hp
  have hu : cs.flatten[j * 9 + 5]? = some (.int .i64 p.2.x) := by
    rw [flatten_getR cs hall j 5 (by decide), hx]
    show (cs[j]'(by omega))[5]? = _
    rw [e]; rfl
  rcases h.own.2 with ⟨-, h0⟩ | ⟨g, cap, cur, hv, -, hB, -, -, -, ht⟩
  · omega
  · injection hv with hv
    refine ⟨g, hv, ?_⟩
    rw [← ht, List.getElem?_take] at hu
    split at hu
    · have hB' : Blk w g 39 cur := hB
      rw [Nat.add_assoc, hB'.cell]
      simpa using hu
    · cases hu
theorem adX_last : ∀ (a : Int) (vs : List PV) (k : Nat), vs.length = k + 1 → ∃ p, (adX a vs)[k]? = some p ∧ p.2.x = lastX a vs
  | _, [], k, h => by simp at h
  | a, [v], k, h => by
    simp at h
    subst h
    exact ⟨(a, v), rfl, rfl⟩
  | a, v :: u :: vs, k, h => by
    obtain ⟨k, rfl⟩ : ∃ k', k = k' + 1 := ⟨vs.length, by simp at h; omega⟩
    obtain ⟨p, h1, h2⟩ := adX_last v.x (u :: vs) k (by simpa using h)
    refine ⟨p, by rw [adX]; simpa using h1, by rw [h2]; rfl⟩
theorem isB_last {D : Dsk} {b s i ep : Int} {n : Nat} {fin : Bool} : ∀ (vs : List PV) (a c : Int) (j : Nat), isB D b s i ep n fin a c j vs → I64 a → I64 (lastX a vs)
  | [], a, _, _, _, h => h
  | v :: vs, a, c, j, h, _ => by
    obtain ⟨-, -, ⟨bs, h3⟩, -, -, -, -, h4⟩ := h
    have hg := (PV.gd (wiS_ck h3).1).1.1
    exact isB_last vs v.x _ _ h4 (by unfold gdH at hg; unfold I64; omega)
theorem isB_len {D : Dsk} {b s i ep : Int} {n : Nat} {vs : List PV} {a c : Int} (h : isB D b s i ep n true a c 0 vs) (hn : vs ≠ []) : 0 ≤ c ∧ c ≤ 65535 ∧ n ≤ 64 := by
  cases vs with
  | nil => exact absurd rfl hn
  | cons v vs =>
    obtain ⟨-, -, ⟨bs, h3⟩, -, q2, -, q4, -⟩ := h
    have hg := (PV.gd (wiS_ck h3).1).1.1
    unfold gdH at hg
    omega
def ScAns (a c : Int) (vss : List (List PV)) (base : Nat) (r : Ending) (w' : World) : Prop :=
  ∃ A k ss, r = .returned (.tuple #[.slice A vss.length k, .int .i64 (endX a vss), .int .i64 (c + (vss.flatten.length : Nat))]) ∧ BsRow base w' A k ss (adXs a vss)
set_option maxHeartbeats 8000000 in
theorem scan_any (w0 w : World) (d : Nat) (D : Dsk) (h : LD w0 w d D) (b s i a0 ep c0 : Int) (ha0 : I64 a0) (hc0 : I64 c0) (hgeo : GeoP b s i) (hbN : b ≤ D.sure.length) (sp : SpanAt w0) (vss : List (List PV)) (hvl : vss.length ≤ 1000) (hv : isScan D b s i ep a0 c0 vss) :
    Calls Tryd.prog 33 #[.pointer (some ⟨d, 0, none⟩), geoV b s i, .int .i64 a0, .int .i64 ep, .int .i64 c0] w fun r w' => ScAns a0 c0 vss w.heap.size r w' ∧ Below w.heap.size w w' := by
  have H := hide h
  have SP := hide sp
  have HV := hide hv
  have HG := hide hgeo
  have H64 := hide (And.intro ha0 hc0)
  obtain ⟨N, hN⟩ : ∃ N, N = D.sure.length := ⟨_, rfl⟩
  have HN := hide (show N = D.sure.length ∧ N ≤ 4096 from ⟨hN, by have := h.ok.n; omega⟩)
  rw [← hN] at hbN
  have HVL := hide hvl
  clear h sp hv hN ha0 hc0 hgeo hvl
  go_enter Tryd.func33, Tryd.ntmps33
  go_upto_region 1 with fail
  obtain ⟨w1, hw⟩ : ∃ W, W = w.alloc (.cells #[.int .i64 b, .int .i64 s, .int .i64 i] 73) := ⟨_, rfl⟩
  have X6 : Hid (Blk w1 w.heap.size 73 #[.int .i64 b, .int .i64 s, .int .i64 i]) := hide (by rw [hw]; exact Blk.new _ _ _)
  have BW : Hid (Below w.heap.size w w1) := hide (by rw [hw]; exact (Below.refl _ _).alloc (Nat.le_refl _) _)
  rw [← hw]
  obtain ⟨g6, hg⟩ : ∃ g, g = w.heap.size := ⟨_, rfl⟩
  rw [← hg] at X6 ⊢
  clear hw hg
  go_upto_region 2 with fail
  have hy := op3S X6.out
  have hbn : decide ((N : Int) < b) = false := decide_eq_false (by omega)
  refine wp_region_noPanic ?_
  refine wp_region_held_drew (S := (fun w' => w'.cell? ⟨g6, 0, none⟩ = some (.int .i64 b) ∧ w'.cell? ⟨g6, 1, none⟩ = some (.int .i64 s) ∧ w'.cell? ⟨g6, 2, none⟩ = some (.int .i64 i))) (by kernel_rfl) ?_ (fun hHeld => ?_)
  · ((try dsimp only) <;> (first | trivial | assumption | go_keep))
  clear hy
  replace X6 := hide X6.out.drew
  replace BW := hide BW.out.drew
  generalize w1.drew = w2 at *
  refine tk 0 ?_
  have CK := hide (check_yes b s i w2 HG.out)
  refine wpAnyH_ready (rs := [1]) (by kernel_rfl) (by simp) ?_
  refine AllReadyH.cons (by simp only [List.getElem?_toArray, List.getElem?_cons_succ, List.getElem?_cons_zero]; rfl) (fun K hK => ?_) ?_
  rotate_left 1
  · exact AllReadyH.nil
  go_simp
  refine CK.out.mono ?_; rintro r w3 ⟨rfl, hb⟩; replace X6 := hide (X6.out.below hb); replace BW := hide (BW.out.trans (hb.mono BW.out.size)); have hy := op3S X6.out; clear hb
  refine hK.out _ _ ?_ (fun hHeld2 => ?_)
  · ((try dsimp only) <;> (first | trivial | assumption | go_keep))
  clear hHeld
  have hHeld := hHeld2
  clear hHeld2 hK K
  try simp only [Act.put, List.setIfInBounds_toArray, List.set_cons_zero, List.set_cons_succ]
  clear hHeld CK
  have hHeld := hy
  clear hy
  refine tk 2 ?_
  refine tk 3 ?_
  refine tk 4 ?_
  refine tk 6 ?_
  refine tk 7 ?_
  have CS : Calls Tryd.prog 38 #[.pointer (some ⟨d, 0, none⟩)] w3 fun e w' => e = .returned (.int .i64 (N : Int)) ∧ w3 = w' := by
    rw [HN.out.1]
    exact ld_size (H.out.below BW.out)
  refine wpAnyH_ready (rs := [5]) (by kernel_rfl) (by simp) ?_
  refine AllReadyH.cons (by simp only [List.getElem?_toArray, List.getElem?_cons_succ, List.getElem?_cons_zero]; rfl) (fun K hK => ?_) ?_
  rotate_left 1
  · exact AllReadyH.nil
  go_simp
  refine CS.mono ?_; rintro r w4 ⟨rfl, rfl⟩
  refine hK.out _ _ ?_ (fun hHeld2 => ?_)
  · ((try dsimp only) <;> (first | trivial | assumption | go_keep))
  clear hHeld
  have hHeld := hHeld2
  clear hHeld2 hK K
  try simp only [Act.put, List.setIfInBounds_toArray, List.set_cons_zero, List.set_cons_succ]
  clear CS
  refine tk 8 ?_
  refine tk 9 ?_
  refine wpAnyH_done (by kernel_rfl) ?_ _
  refine NoPanic.normal ?_
  clear hHeld hbn
  go_wp2_with fail
  go_loopw [2, 4, 13] (fun x2 x4 x13 wr => ∃ (a c : Int) (j : Nat) (A : Option Addr) (cc : Nat) (ss : List Value) (pre : List (List (Int × PV))) (rest : List (List PV)), x2 = .int .i64 a ∧ x4 = .int .i64 c ∧ x13 = .slice A j cc ∧ I64 a ∧ I64 c ∧ j = pre.length ∧ adXs a0 vss = pre ++ adXs a rest ∧ isScan D b s i ep a c rest ∧ endX a0 vss = endX a rest ∧ c0 + (vss.flatten.length : Nat) = c + (rest.flatten.length : Nat) ∧ BsRow w.heap.size wr A cc ss pre ∧ Blk wr g6 73 #[.int .i64 b, .int .i64 s, .int .i64 i] ∧ Below w.heap.size w wr) (fun _ _ x _ => vss.length - (match x with | .slice _ k _ => k | _ => 0))
  case atStart => exact ⟨a0, c0, 0, none, 0, [], [], vss, rfl, rfl, rfl, H64.out.1, H64.out.2, rfl, rfl, HV.out, rfl, rfl, BsRow.nil, X6.out, BW.out⟩
  case round =>
    obtain ⟨a, c, j, A, cc, ss, pre, rest, rfl, rfl, rfl, ha, hc, hj, hps, his, hen, hct, hB, hX, hb⟩ := hrel
    have HA := hide ha
    have HC := hide hc
    have HJ := hide hj
    have HPS := hide hps
    have HIS := hide his
    have HEN := hide hen
    have HCT := hide hct
    have BR := hide hB
    replace X6 := hide hX
    replace BW := hide hb
    clear ha hc hj hps his hen hct hB hX hb
    cases rest with
    | nil =>
      obtain ⟨n, vs, hib⟩ := HIS.out
      have BC := hide (batch_any w0 wr d D (H.out.below BW.out) b s i a ep c HA.out HC.out n false SP.out vs hib (by simp))
      clear hib
      obtain ⟨y0, y1, y2⟩ := op3S X6.out
      go_wp2_with fail
      clear y0 y1 y2
      refine BC.out.mono ?_
      rintro r w4 ⟨hans, hb⟩
      unfold BtAns at hans
      rw [if_neg (by decide)] at hans
      subst hans
      replace BR := hide (BR.out.below hb)
      replace BW := hide (BW.out.trans (hb.mono BW.out.size))
      clear hb BC
      go_wp2_with fail
      go_ret3
      have e : adXs a0 vss = pre := by rw [HPS.out]; simp [adXs]
      have e2 : j = vss.length := by rw [HJ.out, ← e, adXs_len]
      refine ⟨⟨A, cc, ss, ?_, by rw [e]; exact BR.out⟩, BW.out⟩
      rw [← e2, HEN.out, HCT.out]
      simp [endX]
    | cons vs rest =>
      obtain ⟨h1, h2, h3⟩ := HIS.out
      have HIS2 := hide h3
      have HL := hide (isB_last vs a c 0 h2 HA.out)
      have HL2 := hide (isB_len h2 h1)
      obtain ⟨k, hk⟩ : ∃ k, vs.length = k + 1 := ⟨vs.length - 1, by have : 0 < vs.length := List.length_pos_iff.2 h1; omega⟩
      have HJV := hide (show j < vss.length by
        have := congrArg List.length HPS.out
        rw [adXs_len, List.length_append, ← HJ.out, adXs, List.length_cons] at this
        omega)
      have BC := hide (batch_any w0 wr d D (H.out.below BW.out) b s i a ep c HA.out HC.out vs.length true SP.out vs h2 (fun _ => h1))
      clear h1 h2 h3 HIS
      obtain ⟨y0, y1, y2⟩ := op3S X6.out
      go_wp2_with fail
      clear y0 y1 y2
      refine BC.out.mono ?_
      rintro r w4 ⟨hans, hb⟩
      unfold BtAns at hans
      rw [if_pos rfl] at hans
      obtain ⟨A1, c1, cs, rfl, hfr⟩ := hans
      obtain ⟨p, hp, hpx⟩ := adX_last a vs k hk
      obtain ⟨g1, rfl, -⟩ := hfr.nx hp
      have HP := hide hp
      have HPX := hide hpx
      have FR := hide (FdRow.bq hfr BW.out.size)
      replace X6 := hide (X6.out.below hb)
      replace BR := hide (BR.out.below hb)
      replace BW := hide (BW.out.trans (hb.mono BW.out.size))
      obtain ⟨m, hm⟩ : ∃ m, m = vs.length := ⟨_, rfl⟩
      have HM := hide hm
      have HMK := hide (show m = k + 1 by omega)
      rw [← hm]
      rw [← hm] at HL2
      clear hb BC hfr hk hm hp hpx
      have O := hide BR.out.own
      rw [← HJ.out] at O
      have hj100 : j ≤ 100000 := by have := HJV.out; have := HVL.out; omega
      have hm1 : IntKind.i64.wrap ((m : Int) - 1) = (k : Int) := by have := HMK.out; have := HL2.out; rw [IntKind.wrap_i64]; omega
      have hcm : IntKind.i64.wrap (c + (m : Int)) = c + (m : Int) := by have := HL2.out; rw [IntKind.wrap_i64]; omega
      have hkm : (k : Int) < (m : Int) := by have := HMK.out; omega
      go_wp2_with (
        at_builtin
        refine wpList_app _ rfl (.tmp 42) (.tmp 44) _ rfl etyBt w.heap.size (.slice A j cc) j _ rfl (own_bel O.out ((Below.refl _ _).alloc (Nat.le_refl _) (.cells #[.slice (some ⟨g1, 0, none⟩) m c1] 76))) (w4.heap.size + 1) (some ⟨w4.heap.size, 0, none⟩) 1 1 [.slice (some ⟨g1, 0, none⟩) m c1] rfl (sl_newS w4 [.slice (some ⟨g1, 0, none⟩) m c1] 76) (by intro u hu; rw [List.mem_singleton] at hu; rw [hu]; rfl) (by omega) (Nat.le_trans BW.out.size (by simp)) ?_
        intro A6 c6 w7 ho hg ha
        have ba := (Below.refl w4.heap.size w4).alloc (Nat.le_refl _) (.cells #[.slice (some ⟨g1, 0, none⟩) m c1] 76)
        have OO := own_bel O.out ba
        have K6 := Kt.gr (base := w.heap.size) (T := [76]) hg (fun g e => by
          obtain ⟨h1, cs, h2⟩ := own_blkO OO e
          exact ⟨h1, _, cs, h2, by simp⟩)
        have FR2 := hide ((FR.out.below ba).kt K6 (by decide) (by decide))
        have BR2 := hide (BsRow.app (BR.out.below ba) (FR.out.below ba) (by rw [← HJ.out, adX_len, ← HM.out]; exact ho) (by rw [← HJ.out]; exact hg))
        have X6' := hide (Blk.kt (X6.out.below ba) K6 (by decide))
        have BW' := hide ((BW.out.trans (ba.mono BW.out.size)).trans (K6.below (Nat.le_trans BW.out.size ba.size)))
        have z5 : w7.cell? ⟨g1, k * 9 + 1 + 4, none⟩ = some (.int .i64 (lastX a vs)) := by
          obtain ⟨g2, e, h⟩ := FR2.out.nx HP.out
          rw [HPX.out] at h
          injection e with e
          injection e with e
          rw [e]
          exact h
        clear ho hg ha ba OO K6)
      clear z5 hm1 hcm hkm
      go_roundw
      case rel =>
        refine ⟨lastX a vs, c + (m : Int), j + 1, A6, c6, _, _, rest, rfl, rfl, by go_num, HL.out, by have := HL2.out; unfold I64; omega, ?_, ?_, by rw [HM.out]; exact HIS2.out, by rw [HEN.out]; rfl, ?_, BR2.out, X6'.out, BW'.out⟩
        · rw [List.length_append, HJ.out]; rfl
        · rw [HPS.out, adXs, List.append_assoc]; rfl
        · rw [HCT.out, List.flatten_cons, List.length_append, HM.out]; omega
      case measure => have := HJV.out; simp; omega
end Go.Proofs.YtlobkefacnedeaaDoor

/- The walk of SegBatches' next: the place behind a place. -/
namespace Go.Proofs.YtlobkefacnedeaaDoor
open Go.RowKit
set_option maxRecDepth 100000
attribute [local go_sem ↓] Go.wp_at_zero Go.wp_at_succ

theorem set2x {w : World} {g : Nat} {t : TypeId} {x0 x1 : Value} (h : Blk w g t #[x0, x1]) (y0 y1 : Value) :
    ∃ W, ((w.setCell ⟨g, 0, none⟩ y0).setCell ⟨g, 1, none⟩ y1) = W ∧ Blk W g t #[y0, y1] ∧ Kp [g] w W := by
  have h0 := h.set 0 y0
  have h1 := h0.set 1 y1
  have hm : ∀ i, (⟨g, i, none⟩ : Addr).block ∈ [g] ∨ w.heap.size ≤ (⟨g, i, none⟩ : Addr).block := fun i => .inl (List.mem_singleton.2 rfl)
  exact ⟨_, rfl, by simpa using h1, ((Kp.refl [g] w).set (hm 0) y0).set (hm 1) y1⟩
theorem pl_step {t : Nat} (ht : t ≤ 23) : inSegs 100 16 9 (pl t : Int) ∧ inSegs 100 16 9 ((pl t : Int) + 3) ∧
    ((3 ≤ 16 - ((pl t : Int) + 3 - 3) % 16 ∧ (pl (t + 1) : Int) = pl t + 3) ∨ (16 - ((pl t : Int) + 3 - 3) % 16 < 3 ∧ 0 ≤ ((pl t : Int) - 3) / 16 ∧ ((pl t : Int) - 3) / 16 ≤ 4 ∧ (pl (t + 1) : Int) = 3 + (((pl t : Int) - 3) / 16 + 1) * 16)) := by
  obtain ⟨q, r, e, hr⟩ : ∃ q r, t = 5 * q + r ∧ r < 5 := ⟨t / 5, t % 5, by omega, by omega⟩
  have e1 : pl t = 19 + 16 * q + 3 * r := by unfold pl; omega
  have e2 : (((19 + 16 * q + 3 * r : Nat) : Int) + 3 - 3) % 16 = 3 + 3 * (r : Int) := by omega
  have e3 : (((19 + 16 * q + 3 * r : Nat) : Int) - 3) / 16 = (q : Int) + 1 := by omega
  unfold inSegs
  rw [segs100, e1, e2, e3]
  refine ⟨by omega, by omega, ?_⟩
  rcases (show r < 4 ∨ r = 4 by omega) with h | h
  · left
    refine ⟨by omega, ?_⟩
    have : pl (t + 1) = 19 + 16 * q + 3 * (r + 1) := by unfold pl; omega
    omega
  · right
    have : pl (t + 1) = 19 + 16 * (q + 1) := by unfold pl; omega
    omega
set_option maxHeartbeats 4000000 in
theorem plnext_any (w : World) (g7 : Nat) (hX : Blk w g7 73 #[.int .i64 100, .int .i64 16, .int .i64 9]) (t : Nat) (ht : t ≤ 23) (c : Int) (hc : 0 ≤ c ∧ c ≤ 70000) :
    Calls Tryd.prog 30 #[.agg #[.int .i64 (pl t : Int), .int .i64 c], .pointer (some ⟨g7, 0, none⟩)] w fun r w' => r = .returned (.agg #[.int .i64 (pl (t + 1) : Int), .int .i64 (c + 1)]) ∧ Below w.heap.size w w' := by
  have X7 := hide hX
  have HS := hide (pl_step ht)
  have hpb := pl_bd (show t ≤ 24 by omega)
  obtain ⟨q, hq⟩ : ∃ q, q = pl (t + 1) := ⟨_, rfl⟩
  obtain ⟨p, hp⟩ : ∃ p, p = pl t := ⟨_, rfl⟩
  rw [← hq] at HS ⊢
  rw [← hp] at HS hpb ⊢
  clear hq hp hX
  go_enter Tryd.func30, Tryd.ntmps30
  go_upto_region 1 with fail
  obtain ⟨w1, hw⟩ : ∃ W, W = (w.alloc (.cells #[.int .i64 (p : Int), .int .i64 c] 81)).alloc (.cells #[.int .i64 0, .int .i64 0] 81) := ⟨_, rfl⟩
  have X2 : Hid (Blk w1 w.heap.size 81 #[.int .i64 (p : Int), .int .i64 c]) := hide (by rw [hw]; exact (Blk.new _ _ _).alloc _)
  have X3 : Hid (Blk w1 (w.heap.size + 1) 81 #[.int .i64 0, .int .i64 0]) := hide (by rw [hw]; have := Blk.new (w.alloc (.cells #[.int .i64 (p : Int), .int .i64 c] 81)) 81 #[.int .i64 0, .int .i64 0]; simpa using this)
  have BW : Hid (Below w.heap.size w w1) := hide (by rw [hw]; exact ((Below.refl _ _).alloc (Nat.le_refl _) _).alloc (by simp) _)
  replace X7 := hide (X7.out.below BW.out)
  rw [← hw]
  obtain ⟨g2, hg2⟩ : ∃ g, g = w.heap.size := ⟨_, rfl⟩
  rw [← hg2] at X2 X3 ⊢
  obtain ⟨g3, hg3⟩ : ∃ g, g = g2 + 1 := ⟨_, rfl⟩
  have G3 := hide (show w.heap.size ≤ g3 by omega)
  rw [← hg3] at X3 ⊢
  clear hw hg2 hg3
  obtain ⟨y0, y1, y2⟩ := op3S X7.out
  have z0 := X2.out.cell 0
  simp only [List.getElem?_toArray, List.getElem?_cons_succ, List.getElem?_cons_zero] at z0
  have hp3 : IntKind.i64.wrap ((p : Int) + 3) = (p : Int) + 3 := by rw [IntKind.wrap_i64]; omega
  have hc1 : IntKind.i64.wrap (c + 1) = c + 1 := by rw [IntKind.wrap_i64]; omega
  go_wp2_with fail
  clear y0 y1 y2 z0 hp3
  refine (left_yes 100 16 9 ((p : Int) + 3) _ HS.out.2.1).mono ?_
  rintro r w2 ⟨rfl, hb⟩
  replace X2 := hide (X2.out.below hb)
  replace X3 := hide (X3.out.below hb)
  replace X7 := hide (X7.out.below hb)
  replace BW := hide (BW.out.trans (hb.mono BW.out.size))
  clear hb
  rcases HS.out.2.2 with ⟨h1, h2⟩ | ⟨h1, h2, h3, h4⟩
  · have h1' : ¬ (16 - ((p : Int) + 3 - 3) % 16 < 3) := by omega
    clear h1
    have HQ := hide h2
    clear h2
    generalize 16 - ((p : Int) + 3 - 3) % 16 = lf at *
    have z1 := X2.out.cell 1
    have f0 := X3.out.frozen
    have y0 := X3.out.cell 0
    have y1 := X3.out.cell 1
    simp only [List.getElem?_toArray, List.getElem?_cons_succ, List.getElem?_cons_zero] at z1 y0 y1
    go_wp2_with fail
    clear z1 f0 y0 y1
    obtain ⟨W, eW, S1, S2⟩ := set2x X3.out (.int .i64 ((p : Int) + 3)) (.int .i64 (c + 1))
    refine bodyPost_ret (results_cell_row (g := g3) (cs := #[.int .i64 ((p : Int) + 3), .int .i64 (c + 1)]) (t := 81) (fr := (0, 0)) rfl _ _ (hp := rfl) (hg := by rw [eW]; exact S1) (hu := Tryd.underlying81) (hd := rfl) (hi := by kernel_rfl)) rfl ?_
    refine ⟨by rw [HQ.out], ?_⟩
    rw [eW]
    exact Below.kp2 BW.out S2 BW.out.size (by simpa using G3.out)
  · generalize 16 - ((p : Int) + 3 - 3) % 16 = lf at *
    obtain ⟨y0, y1, y2⟩ := op3S X7.out
    have z0 := X2.out.cell 0
    simp only [List.getElem?_toArray, List.getElem?_cons_succ, List.getElem?_cons_zero] at z0
    have HQ := hide h4
    have HB := hide (And.intro h2 h3)
    clear h2 h3 h4
    go_wp2_with fail
    clear y0 y1 y2 z0
    refine (of_yes 100 16 9 (p : Int) _ HS.out.1).mono ?_
    rintro r w3 ⟨rfl, hb⟩
    replace X2 := hide (X2.out.below hb)
    replace X3 := hide (X3.out.below hb)
    replace X7 := hide (X7.out.below hb)
    replace BW := hide (BW.out.trans (hb.mono BW.out.size))
    clear hb
    have HB2 := HB.out
    clear HB HS
    generalize ((p : Int) - 3) / 16 = sg at *
    generalize ((p : Int) - 3) % 16 = sr at *
    have hs1 : IntKind.i64.wrap (sg + 1) = sg + 1 := by rw [IntKind.wrap_i64]; omega
    have hs2 : (sg + 1).tmod 6 = sg + 1 := by rw [Int.tmod_eq_emod_of_nonneg (by omega)]; omega
    obtain ⟨y0, y1, y2⟩ := op3S X7.out
    go_wp2_with fail
    clear y0 y1 y2
    refine (first_yes 100 16 9 (sg + 1) _ (by omega) (by rw [segs100]; omega)).mono ?_
    rintro r w4 ⟨rfl, hb⟩
    replace X2 := hide (X2.out.below hb)
    replace X3 := hide (X3.out.below hb)
    replace BW := hide (BW.out.trans (hb.mono BW.out.size))
    clear hb hs1 hs2 X7
    rw [← HQ.out]
    have z1 := X2.out.cell 1
    have f0 := X3.out.frozen
    have y0 := X3.out.cell 0
    have y1 := X3.out.cell 1
    simp only [List.getElem?_toArray, List.getElem?_cons_succ, List.getElem?_cons_zero] at z1 y0 y1
    go_wp2_with fail
    clear z1 f0 y0 y1
    obtain ⟨W, eW, S1, S2⟩ := set2x X3.out (.int .i64 (q : Int)) (.int .i64 (c + 1))
    refine bodyPost_ret (results_cell_row (g := g3) (cs := #[.int .i64 (q : Int), .int .i64 (c + 1)]) (t := 81) (fr := (0, 0)) rfl _ _ (hp := rfl) (hg := by rw [eW]; exact S1) (hu := Tryd.underlying81) (hd := rfl) (hi := by kernel_rfl)) rfl ?_
    refine ⟨rfl, ?_⟩
    rw [eW]
    exact Below.kp2 BW.out S2 BW.out.size (by simpa using G3.out)
end Go.Proofs.YtlobkefacnedeaaDoor
