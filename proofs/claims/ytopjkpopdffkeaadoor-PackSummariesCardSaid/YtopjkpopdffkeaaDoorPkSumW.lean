/- The walk over marllaw13.PackSummaries. -/
import Derived.Test.YtopjkpopdffkeaaDoorPkSumS
import Derived.Test.YtopjkpopdffkeaaDoorPkAwW
import Derived.Test.YtopjkpopdffkeaaDoorPkFewW
import Derived.Test.YtopjkpopdffkeaaDoorLast
set_option linter.unusedVariables false
set_option linter.unusedSimpArgs false
namespace Go.Proofs.YtopjkpopdffkeaaDoor
open Go.RowKit
attribute [local go_sem ↓] Go.wp_at_zero Go.wp_at_succ

theorem OutR.belowD {base n c : Nat} {w w' : World} {A : Option Addr} {ps : List PcP} (h : OutR base w A n c ps) (hb : Below w.heap.size w w') : OutR base w' A n c ps :=
  h.kt (Kt.of_below hb) (fun g hg => by
    obtain ⟨-, cs, hB⟩ := h.blk hg
    exact hb.block g hB.lt)
set_option maxRecDepth 100000 in
set_option maxHeartbeats 8000000 in
theorem summ_all (A A' : Option Addr) (m c m' c' : Nat) (files : List FI) (inos : List Int) (left size : Int) (w : World) (sp : SpanAt w) (hf : FisAt 0 w.heap.size w A m files) (hi : IntsAt 0 w.heap.size w A' m' inos) (hm63 : m ≤ 9223372036854775807) (hm63' : m' ≤ 9223372036854775807) (hls : ∀ f ∈ files, (∀ x ∈ f.ls, I64 x) ∧ f.ls.length ≤ 9223372036854775807) :
    Calls Tryd.prog 3 #[.slice A m c, .slice A' m' c', .agg #[.int .i64 left, .int .i64 size]] w fun e w' => e = .returned (.bool true) ∧ Below w.heap.size w w' := by
  have HF := hide hf
  have HI := hide hi
  have HLS := hide hls
  have HL1 := hide (hf.len)
  have HL2 := hide (IntsAt.len hi)
  have SP := hide sp
  clear hf hi hls sp
  go_enter Tryd.func3, Tryd.ntmps3
  go_wp2_with fail
  obtain ⟨wx, hwx⟩ : ∃ W, W = w.alloc (.cells #[.int .i64 left, .int .i64 size] 24) := ⟨_, rfl⟩
  have BX : Hid (Below w.heap.size w wx) := hide (by rw [hwx]; exact (Below.refl _ _).alloc (Nat.le_refl _) _)
  have KX : Hid (Blk wx w.heap.size 24 #[.int .i64 left, .int .i64 size]) := hide (by rw [hwx]; exact Blk.new _ _ _)
  rw [← hwx]
  clear hwx
  refine (awake13 wx).mono ?_
  rintro e w1 ⟨rfl, hb⟩
  have B1 := hide (BX.out.trans (hb.mono BX.out.size))
  have K1 := hide (KX.out.below hb)
  clear hb BX KX
  go_wp2_with fail
  refine (few_any A A' m c m' c' _ _ _ _ files inos w1 (HF.out.below B1.out) (RwAt.below HI.out B1.out) hm63 hm63' (fun f hf => (HLS.out f hf).2)).mono ?_
  rintro e w2 ⟨rfl, hb⟩
  have B2 := hide (B1.out.trans (hb.mono B1.out.size))
  have K2 := hide (K1.out.below hb)
  clear hb B1 K1
  by_cases hfew : fewP files inos
  · rw [decide_eq_true hfew]
    have HFEW := hide hfew
    have hm300 : m ≤ 300 := by have := hfew.1; rw [HL1.out] at this; exact this
    have hm300' : m' ≤ 300 := by have := hfew.2; rw [HL2.out] at this; omega
    have HLSN := hide (show lsN files ≤ 300 by have := hfew.2; omega)
    have l1 := fun w x => int_lit1 w x
    have lf := fun w xs h => one_file w xs h
    clear hfew
    go_wp2_with fail
    go_loopw [29] (fun y wr => ∃ j : Nat, j ≤ m ∧ y = .int .i64 (j : Int) ∧ (∀ f ∈ files.take j, ∀ b ∈ f.ls, gdB f b) ∧ Below w2.heap.size w2 wr) (fun y _ => m - (intOf y).toNat)
    case atStart => exact ⟨0, Nat.zero_le _, rfl, by simp, Below.refl _ _⟩
    case round =>
      obtain ⟨j, hj, rfl, hgd, hb⟩ := hrel
      have HGD := hide hgd
      have HB := hide hb
      have BB := hide (B2.out.trans (hb.mono B2.out.size))
      clear hgd hb
      by_cases hlt : j < m
      · obtain ⟨b5, off5, f, A5, c5, hA5, hFr, hfi, hI5, z0, z1, z2⟩ := (HF.out.below BB.out).at hlt
        subst hA5
        have HFI := hide hfi
        have F64 := hide (HLS.out f (List.mem_of_getElem? hfi)).1
        have HI5 := hide hI5
        obtain ⟨m5, hm5⟩ : ∃ x, x = f.ls.length := ⟨_, rfl⟩
        have hm5b : m5 ≤ 300 := by rw [hm5]; have := lsN_mem hfi; have := HLSN.out; omega
        rw [← hm5] at z2 HI5
        have HM5 := hide hm5
        clear hFr hfi hI5 hm5
        have hjs : (j : Int) < (m : Int) := by omega
        have hj64 : IntKind.i64.wrap (j : Int) = (j : Int) := by rw [IntKind.wrap_i64]; omega
        obtain ⟨wb, hwb⟩ : ∃ W, W = wr.alloc (.cells #[.int .i64 f.ino, .int .i64 f.ver, .slice A5 m5 c5] 28) := ⟨_, rfl⟩
        have KF : Hid (Blk wb wr.heap.size 28 #[.int .i64 f.ino, .int .i64 f.ver, .slice A5 m5 c5]) := hide (by rw [hwb]; exact Blk.new _ _ _)
        have BA : Hid (Below wr.heap.size wr wb) := hide (by rw [hwb]; exact (Below.refl _ _).alloc (Nat.le_refl _) _)
        have I6 := hide (RwAt.below HI5.out BA.out)
        have HB2 := hide (HB.out.trans (BA.out.mono HB.out.size))
        have BB2 := hide (BB.out.trans (BA.out.mono BB.out.size))
        obtain ⟨bf, hbf⟩ : ∃ b, b = wr.heap.size := ⟨_, rfl⟩
        rw [← hbf] at KF
        go_upto_region 6 with fail
        rw [← hwb, ← hbf]
        clear hwb hbf z0 z1 z2
        have x2 := KF.out.cell 2
        simp only [List.getElem?_toArray, List.getElem?_cons_succ, List.getElem?_cons_zero] at x2
        go_wp2_with fail
        clear x2
        go_loopw [10, 36] (fun _ y wr => ∃ k : Nat, k ≤ m5 ∧ y = .int .i64 (k : Int) ∧ (∀ b ∈ f.ls.take k, gdB f b) ∧ Below wb.heap.size wb wr) (fun _ y _ => m5 - (intOf y).toNat)
        case atStart => exact ⟨0, Nat.zero_le _, rfl, by simp, Below.refl _ _⟩
        case round =>
          obtain ⟨k, hk, rfl, hgk, hb⟩ := hrel
          have HGK := hide hgk
          have HB3 := hide hb
          have BB3 := hide (BB2.out.trans (hb.mono BB2.out.size))
          have KF3 := hide (KF.out.below hb)
          clear hgk hb
          by_cases hlt2 : k < m5
          · obtain ⟨zn, hzn⟩ : ∃ x, f.ls[k]? = some x := ⟨_, List.getElem?_eq_getElem (by rw [← HM5.out]; exact hlt2)⟩
            obtain ⟨b6, off6, hA6, -, hc6⟩ := (RwAt.below I6.out HB3.out).at (by omega) (by decide)
            have z6 := hc6 k (.int .i64 zn) (by rw [intC, List.getElem?_map, hzn]; rfl)
            subst hA6
            have HZN := hide hzn
            have hks : (k : Int) < (m5 : Int) := by omega
            have hk64 : IntKind.i64.wrap (k : Int) = (k : Int) := by rw [IntKind.wrap_i64]; omega
            have x0 := KF3.out.cell 0
            have x1 := KF3.out.cell 1
            simp only [List.getElem?_toArray, List.getElem?_cons_succ, List.getElem?_cons_zero] at x0 x1
            clear hzn hc6
            go_wp2_with fail
            obtain ⟨w5, hw5⟩ : ∃ W, W = (wr.alloc (.cells #[.int .i64 zn] 3)).alloc (.cells #[.int .i64 f.ino, .int .i64 f.ver, .slice (some ⟨wr.heap.size, 0, none⟩) 1 1] 28) := ⟨_, rfl⟩
            have k1 : Blk w5 wr.heap.size 3 #[.int .i64 zn] := by rw [hw5]; exact (Blk.new _ _ _).alloc _
            have k2 : Blk w5 (wr.heap.size + 1) 28 #[.int .i64 f.ino, .int .i64 f.ver, .slice (some ⟨wr.heap.size, 0, none⟩) 1 1] := by
              rw [hw5]
              have := Blk.new (wr.alloc (.cells #[.int .i64 zn] 3)) 28 #[.int .i64 f.ino, .int .i64 f.ver, .slice (some ⟨wr.heap.size, 0, none⟩) 1 1]
              rwa [World.size_alloc] at this
            have hB5 : Below wr.heap.size wr w5 := by rw [hw5]; exact ((Below.refl _ _).alloc (Nat.le_refl _) _).alloc (by simp) _
            have HB5 := hide (HB3.out.trans (hB5.mono HB3.out.size))
            have BB5 := hide (BB3.out.trans (hB5.mono BB3.out.size))
            have hff : FisAt 0 0 w5 (some ⟨wr.heap.size + 1, 0, none⟩) 1 [⟨f.ino, f.ver, [zn]⟩] := fis_one (f := ⟨f.ino, f.ver, [zn]⟩) (c := 1) (A := some ⟨wr.heap.size, 0, none⟩) k2 (rw_of_blk (xs := intC [zn]) k1 rfl)
            have hz64 : I64 zn := F64.out zn (List.mem_of_getElem? HZN.out)
            have CK := check_any 0 0 0 1 0 (some ⟨wr.heap.size + 1, 0, none⟩) none 1 1 0 0 _ _ 0 0 [⟨f.ino, f.ver, [zn]⟩] [] w5 (SP.out.bel BB5.out) hff RwAt.nil (by decide) (by decide) (by show 1 + 0 ≤ 100000; omega) (fun g hg x hx => by rw [List.mem_singleton.1 hg] at hx; rw [List.mem_singleton.1 hx]; exact hz64)
            unfold partC at CK
            obtain ⟨ck, hck⟩ : ∃ z, z = checkP 0 0 0 1 0 [⟨f.ino, f.ver, [zn]⟩] [] := ⟨_, rfl⟩
            rw [← hck] at CK
            have HCK := hide hck
            have CKH := hide CK
            rw [← hw5]
            clear hw5 k1 k2 hB5 hff CK hck x0 x1 z6 hz64
            refine CKH.out.mono ?_
            rintro r w6 ⟨rfl, hb⟩
            have HB6 := hide (HB5.out.trans (hb.mono HB5.out.size))
            have BB6 := hide (BB5.out.trans (hb.mono BB5.out.size))
            clear hb CKH
            by_cases h0 : ck = 0
            · subst h0
              go_wp2_with fail
              go_roundw
              case rel =>
                refine ⟨k + 1, by omega, by go_num, ?_, HB6.out⟩
                intro b hb
                rw [List.take_add_one, HZN.out] at hb
                rcases List.mem_append.1 hb with hb | hb
                · exact HGK.out b hb
                · simp at hb; rw [hb]; exact HCK.out.symm
              case measure => simp [intOf]; omega
            · have h0b : (ck != 0) = true := bne_iff_ne.2 h0
              go_wp2_with fail
              go_ret
              exact ⟨rfl, BB6.out⟩
          · have hkm : k = m5 := by omega
            have HKM := hide hkm
            clear hkm
            go_wp2_with fail
            go_roundw
            case rel =>
              refine ⟨j + 1, by omega, by go_num, ?_, HB2.out.trans (HB3.out.mono HB2.out.size)⟩
              intro g hg
              rw [List.take_add_one, HFI.out] at hg
              rcases List.mem_append.1 hg with hg | hg
              · exact HGD.out g hg
              · simp at hg
                rw [hg]
                have := HGK.out
                rwa [HKM.out, HM5.out, List.take_length] at this
            case measure => simp [intOf]; omega
      · have hjm : j = m := by omega
        have hall : ∀ f ∈ files, ∀ b ∈ f.ls, gdB f b := by
          have := HGD.out
          rwa [hjm, ← HL1.out, List.take_length] at this
        have HALL := hide hall
        clear hall hjm
        go_wp2_with fail
        go_loopw [12, 55] (fun _ y wr => ∃ k : Nat, k ≤ m' ∧ y = .int .i64 (k : Int) ∧ (∀ n ∈ inos.take k, 1 ≤ n ∧ n ≤ 200) ∧ Below w2.heap.size w2 wr) (fun _ y _ => m' - (intOf y).toNat)
        case atStart => exact ⟨0, Nat.zero_le _, rfl, by simp, HB.out⟩
        case round =>
          obtain ⟨k, hk, rfl, hgk, hb⟩ := hrel
          have HGK := hide hgk
          have HB3 := hide hb
          have BB3 := hide (B2.out.trans (hb.mono B2.out.size))
          clear hgk hb
          by_cases hlt2 : k < m'
          · obtain ⟨zn, hzn⟩ : ∃ x, inos[k]? = some x := ⟨_, List.getElem?_eq_getElem (by rw [HL2.out]; exact hlt2)⟩
            obtain ⟨b6, off6, hA6, -, hc6⟩ := RwAt.at (RwAt.below HI.out BB3.out) (by omega) (by decide)
            have z6 := hc6 k (.int .i64 zn) (by rw [intC, List.getElem?_map, hzn]; rfl)
            subst hA6
            have HZN := hide hzn
            have hks : (k : Int) < (m' : Int) := by omega
            have hk64 : IntKind.i64.wrap (k : Int) = (k : Int) := by rw [IntKind.wrap_i64]; omega
            clear hzn hc6
            by_cases h1 : zn < 1
            · go_wp2_with fail
              go_ret
              exact ⟨rfl, BB3.out⟩
            · by_cases h2 : 200 < zn
              · go_wp2_with fail
                go_ret
                exact ⟨rfl, BB3.out⟩
              · have HZ := hide (show 1 ≤ zn ∧ zn ≤ 200 by omega)
                go_wp2_with fail
                go_roundw
                case rel =>
                  refine ⟨k + 1, by omega, by go_num, ?_, HB3.out⟩
                  intro n hn
                  rw [List.take_add_one, HZN.out] at hn
                  rcases List.mem_append.1 hn with hn | hn
                  · exact HGK.out n hn
                  · simp at hn; rw [hn]; exact HZ.out
                case measure => simp [intOf]; omega
          · have hkm : k = m' := by omega
            have hnall : ∀ n ∈ inos, 1 ≤ n ∧ n ≤ 200 := by
              have := HGK.out
              rwa [hkm, ← HL2.out, List.take_length] at this
            have HNALL := hide hnall
            clear hnall hkm
            have y0 := (K2.out.below HB3.out).cell 0
            have y1 := (K2.out.below HB3.out).cell 1
            simp only [List.getElem?_toArray, List.getElem?_cons_succ, List.getElem?_cons_zero] at y0 y1
            by_cases hbad : badP left size
            · go_wp2_with fail
              clear y0 y1
              refine (plan_bad A A' m c m' c' left size wr hbad).mono ?_
              rintro e w4 ⟨rfl, hb4⟩
              have B4 := hide (BB3.out.trans (hb4.mono BB3.out.size))
              clear hb4
              go_wp2_with fail
              go_ret
              exact ⟨rfl, B4.out⟩
            · have hgood : 8 ≤ size ∧ size ≤ 64 ∧ 0 ≤ left ∧ left ≤ size := by unfold badP at hbad; omega
              obtain ⟨g8, g64, g0, gl⟩ := hgood
              go_wp2_with fail
              clear y0 y1
              have C1 := plan_good A A' m c m' c' _ _ _ _ files inos left size wr (HF.out.below BB3.out) (RwAt.below HI.out BB3.out) BB3.out.size BB3.out.size (by omega) (by omega) (by have := HLSN.out; omega) hbad
              refine C1.mono ?_
              rintro e w4 ⟨hb4, hq4⟩
              have B4 := hide (BB3.out.trans (hb4.mono BB3.out.size))
              clear C1 hb4 hbad
              rcases hR : goS (actsA files inos) (startS left size) with _ | sa
              · rw [hR] at hq4
                obtain rfl : e = _ := hq4
                go_wp2_with fail
                go_ret
                exact ⟨rfl, B4.out⟩
              · have OKP := hide (fun (i : Nat) (p : PcP) (hp : sa.out[i]? = some p) => piece_ok g8 g0 gl hR HALL.out HNALL.out hp)
                have BD := hide (plan_bd g8 g0 gl hR)
                have P64 := hide (fun (p : PcP) (hp : p ∈ sa.out) => piece_64 (plan_all g8 g0 gl hR).1 (fun f hf => (HLS.out f hf).1) hp)
                rw [hR] at hq4
                obtain ⟨PA, da, rfl, hOA⟩ := hq4
                have OA := hide hOA
                clear hOA hR
                obtain ⟨ps, hps⟩ : ∃ ps, ps = sa.out := ⟨_, rfl⟩
                rw [← hps] at OA BD P64 OKP ⊢
                clear hps
                clear sa
                obtain ⟨L, hL⟩ : ∃ L, L = ps.length := ⟨_, rfl⟩
                rw [← hL] at OA BD OKP ⊢
                clear hL
                have hL600 : L ≤ 600 := by have := BD.out.1; have := HFEW.out.2; omega
                go_wp2_with fail
                go_loopw [86] (fun y wr => ∃ i : Nat, i ≤ L ∧ y = .int .i64 (i : Int) ∧ Below w4.heap.size w4 wr) (fun y _ => L - (intOf y).toNat)
                case atStart => exact ⟨0, Nat.zero_le _, rfl, Below.refl _ _⟩
                case round =>
                  obtain ⟨i, hiL, rfl, hb⟩ := hrel
                  have HB9 := hide hb
                  have BB9 := hide (B4.out.trans (hb.mono B4.out.size))
                  clear hb
                  by_cases hlt4 : i < L
                  · obtain ⟨g, p, P1, d1, P2, d2, hA, hg0, ⟨csg, hgb⟩, hp, hf1, hi1, q0, q1, q2⟩ := (OA.out.belowD HB9.out).at hlt4
                    subst hA
                    have OKI := hide (OKP.out i p hp)
                    have hmem := List.mem_of_getElem? hp
                    obtain ⟨k1, k2, k3, k4⟩ := BD.out.2 p hmem
                    have P64I := hide (P64.out p hmem)
                    have F1 := hide hf1
                    have I1 := hide hi1
                    have hpn : Hid (lsN p.fs ≤ 600) := hide (by have := HFEW.out.2; omega)
                    obtain ⟨n1, hn1⟩ : ∃ z, z = p.fs.length := ⟨_, rfl⟩
                    obtain ⟨n2, hn2⟩ : ∃ z, z = p.is.length := ⟨_, rfl⟩
                    obtain ⟨nw, hnw⟩ : ∃ z, z = p.nw := ⟨_, rfl⟩
                    rw [← hn1] at F1 q1 k1
                    rw [← hn2] at I1 q2 k2
                    rw [← hnw] at q0
                    have hn1b : n1 ≤ 600 := by have := HFEW.out.2; omega
                    have hn2b : n2 ≤ 600 := by have := HFEW.out.2; omega
                    clear hp hf1 hi1 hgb hg0 hn1 hn2 hnw k1 k2 k3 k4 hmem
                    have his : (i : Int) < (L : Int) := by omega
                    have hi64 : IntKind.i64.wrap (i : Int) = (i : Int) := by rw [IntKind.wrap_i64]; omega
                    obtain ⟨wa, hwa⟩ : ∃ W, W = wr.alloc (.cells #[.bool nw, .slice P1 n1 d1, .slice P2 n2 d2] 37) := ⟨_, rfl⟩
                    have KA : Hid (Blk wa wr.heap.size 37 #[.bool nw, .slice P1 n1 d1, .slice P2 n2 d2]) := hide (by rw [hwa]; exact Blk.new _ _ _)
                    have BA : Hid (Below wr.heap.size wr wa) := hide (by rw [hwa]; exact (Below.refl _ _).alloc (Nat.le_refl _) _)
                    go_upto_region 25 with fail
                    rw [← hwa]
                    have a0 := KA.out.cell 0
                    have a1 := KA.out.cell 1
                    have a2 := KA.out.cell 2
                    simp only [List.getElem?_toArray, List.getElem?_cons_succ, List.getElem?_cons_zero] at a0 a1 a2
                    clear hwa q0 q1 q2
                    go_upto_region 26 with fail
                    obtain ⟨wc, hwc⟩ : ∃ W, W = wa.alloc (.cells #[.int .i64 0, .int .i64 0, .int .i64 (i : Int), .int .i64 (L : Int), .int .i64 0, .slice P1 n1 d1, .slice P2 n2 d2] 32) := ⟨_, rfl⟩
                    have KC : Hid (Blk wc wa.heap.size 32 #[.int .i64 0, .int .i64 0, .int .i64 (i : Int), .int .i64 (L : Int), .int .i64 0, .slice P1 n1 d1, .slice P2 n2 d2]) := hide (by rw [hwc]; exact Blk.new _ _ _)
                    have KAC : Hid (Blk wc wr.heap.size 37 #[.bool nw, .slice P1 n1 d1, .slice P2 n2 d2]) := hide (by rw [hwc]; exact KA.out.alloc _)
                    have BC : Hid (Below wr.heap.size wr wc) := hide (by rw [hwc]; exact BA.out.alloc BA.out.size _)
                    rw [← hwc]
                    clear hwc a0 a1 a2
                    obtain ⟨pa, hpa⟩ : ∃ z, z = wr.heap.size := ⟨_, rfl⟩
                    obtain ⟨pc, hpc⟩ : ∃ z, z = wa.heap.size := ⟨_, rfl⟩
                    rw [← hpa] at KAC
                    rw [← hpc] at KC
                    rw [← hpa, ← hpc]
                    have BC4 := hide (BB9.out.trans (BC.out.mono BB9.out.size))
                    have HB10 := hide (HB9.out.trans (BC.out.mono HB9.out.size))
                    have FC := hide (F1.out.below BC.out)
                    have IC := hide (RwAt.below I1.out BC.out)
                    clear hpa hpc
                    have CC := hide (fun (w' : World) (hb : Below wc.heap.size wc w') => show w'.cell? ⟨pc, 0, none⟩ = some (.int .i64 0) ∧ w'.cell? ⟨pc, 1, none⟩ = some (.int .i64 0) ∧ w'.cell? ⟨pc, 2, none⟩ = some (.int .i64 (i : Int)) ∧ w'.cell? ⟨pc, 3, none⟩ = some (.int .i64 (L : Int)) ∧ w'.cell? ⟨pc, 4, none⟩ = some (.int .i64 0) ∧ w'.cell? ⟨pc, 5, none⟩ = some (.slice P1 n1 d1) ∧ w'.cell? ⟨pc, 6, none⟩ = some (.slice P2 n2 d2) ∧ w'.cell? ⟨pa, 0, none⟩ = some (.bool nw) ∧ w'.cell? ⟨pa, 1, none⟩ = some (.slice P1 n1 d1) ∧ w'.cell? ⟨pa, 2, none⟩ = some (.slice P2 n2 d2) from
                      ⟨(KC.out.below hb).cell 0, (KC.out.below hb).cell 1, (KC.out.below hb).cell 2, (KC.out.below hb).cell 3, (KC.out.below hb).cell 4, (KC.out.below hb).cell 5, (KC.out.below hb).cell 6, (KAC.out.below hb).cell 0, (KAC.out.below hb).cell 1, (KAC.out.below hb).cell 2⟩)
                    have s0 := CC.out _ (Below.refl _ _).drew
                    refine wp_region_noPanic ?_
                    refine wp_region_held_drew (S := (fun w' => w'.cell? ⟨pc, 0, none⟩ = some (.int .i64 0) ∧ w'.cell? ⟨pc, 1, none⟩ = some (.int .i64 0) ∧ w'.cell? ⟨pc, 2, none⟩ = some (.int .i64 (i : Int)) ∧ w'.cell? ⟨pc, 3, none⟩ = some (.int .i64 (L : Int)) ∧ w'.cell? ⟨pc, 4, none⟩ = some (.int .i64 0) ∧ w'.cell? ⟨pc, 5, none⟩ = some (.slice P1 n1 d1) ∧ w'.cell? ⟨pc, 6, none⟩ = some (.slice P2 n2 d2) ∧ w'.cell? ⟨pa, 0, none⟩ = some (.bool nw) ∧ w'.cell? ⟨pa, 1, none⟩ = some (.slice P1 n1 d1) ∧ w'.cell? ⟨pa, 2, none⟩ = some (.slice P2 n2 d2))) (by kernel_rfl) ?_ (fun hHeld => ?_)
                    · ((try dsimp only) <;> (first | trivial | assumption | go_keep))
                    clear s0
                    have BD0 := hide ((Below.refl wc.heap.size wc).drew)
                    refine wpAnyH_take (i := 0) (v := ?_) (by simp only [List.getElem?_toArray, List.getElem?_cons_succ, List.getElem?_cons_zero]; rfl) (by kernel_rfl) (by kernel_rfl) (by kernel_rfl) (fun _ _ _ h => h) (Or.inl ⟨by rfl, ?_⟩) (by assumption) ?_
                    rotate_left 1
                    · (intro w hSw; (try dsimp only at hSw); go_simp; try with_reducible rfl)
                    try simp only [Act.put, List.setIfInBounds_toArray, List.set_cons_zero, List.set_cons_succ]
                    have CKH := hide (check_any 0 0 (i : Int) (L : Int) 0 P1 P2 n1 d1 n2 d2 _ _ _ _ p.fs p.is wc.drew (SP.out.bel (BC4.out.trans (BD0.out.mono BC4.out.size))) (FC.out.below BD0.out) (RwAt.below IC.out BD0.out) (by omega) (by omega) (by have := hpn.out; omega) P64I.out)
                    rw [OKI.out] at CKH
                    unfold partC at CKH
                    refine wpAnyH_ready (rs := [1]) (by kernel_rfl) (by simp) ?_
                    refine AllReadyH.cons (by simp only [List.getElem?_toArray, List.getElem?_cons_succ, List.getElem?_cons_zero]; rfl) (fun K hK => ?_) ?_
                    rotate_left 1
                    · exact AllReadyH.nil
                    go_simp
                    refine CKH.out.mono ?_; rintro r w5 ⟨rfl, hb⟩; have B5 := hide (BD0.out.trans (hb.mono BD0.out.size)); clear hb CKH; go_wp2_with fail
                    refine hK.out _ _ ?_ (fun hHeld2 => ?_)
                    · ((try dsimp only) <;> (exact CC.out _ B5.out))
                    clear hHeld
                    have hHeld := hHeld2
                    clear hHeld2 hK K
                    try simp only [Act.put, List.setIfInBounds_toArray, List.set_cons_zero, List.set_cons_succ]
                    refine wpAnyH_take (i := 2) (v := ?_) (by simp only [List.getElem?_toArray, List.getElem?_cons_succ, List.getElem?_cons_zero]; rfl) (by kernel_rfl) (by kernel_rfl) (by kernel_rfl) (fun _ _ _ h => h) (Or.inl ⟨by rfl, ?_⟩) (by assumption) ?_
                    rotate_left 1
                    · (intro w hSw; (try dsimp only at hSw); go_simp; try with_reducible rfl)
                    try simp only [Act.put, List.setIfInBounds_toArray, List.set_cons_zero, List.set_cons_succ]
                    refine wpAnyH_take (i := 3) (v := ?_) (by simp only [List.getElem?_toArray, List.getElem?_cons_succ, List.getElem?_cons_zero]; rfl) (by kernel_rfl) (by kernel_rfl) (by kernel_rfl) (fun _ _ _ h => h) (Or.inl ⟨by rfl, ?_⟩) (by assumption) ?_
                    rotate_left 1
                    · (intro w hSw; (try dsimp only at hSw); go_simp; try with_reducible rfl)
                    try simp only [Act.put, List.setIfInBounds_toArray, List.set_cons_zero, List.set_cons_succ]
                    refine wpAnyH_take (i := 4) (v := ?_) (by simp only [List.getElem?_toArray, List.getElem?_cons_succ, List.getElem?_cons_zero]; rfl) (by kernel_rfl) (by kernel_rfl) (by kernel_rfl) (fun _ _ _ h => h) (Or.inl ⟨by rfl, ?_⟩) (by assumption) ?_
                    rotate_left 1
                    · (intro w hSw; (try dsimp only at hSw); go_simp; try with_reducible rfl)
                    try simp only [Act.put, List.setIfInBounds_toArray, List.set_cons_zero, List.set_cons_succ]
                    refine wpAnyH_take (i := 6) (v := ?_) (by simp only [List.getElem?_toArray, List.getElem?_cons_succ, List.getElem?_cons_zero]; rfl) (by kernel_rfl) (by kernel_rfl) (by kernel_rfl) (fun _ _ _ h => h) (Or.inl ⟨by rfl, ?_⟩) (by assumption) ?_
                    rotate_left 1
                    · (intro w hSw; (try dsimp only at hSw); go_simp; try with_reducible rfl)
                    try simp only [Act.put, List.setIfInBounds_toArray, List.set_cons_zero, List.set_cons_succ]
                    have SBL := hide (fun (W : World) (hb : Below wc.heap.size wc W) => sblocks_any 0 0 (i : Int) (L : Int) 0 P1 P2 n1 d1 n2 d2 _ _ p.fs W (FC.out.below hb) (by omega) (by omega) (by have := hpn.out; omega))
                    have PBL := hide (fun (W : World) (hb : Below wc.heap.size wc W) => pblocks_any nw P1 P2 n1 d1 n2 d2 _ _ p.fs W (FC.out.below hb) (by omega) (by omega) (by have := hpn.out; omega))
                    unfold partC at SBL
                    unfold pcC at PBL
                    obtain ⟨nb, hnb⟩ : ∃ z, z = ((2 + n2 + lsN p.fs : Nat) : Int) := ⟨_, rfl⟩
                    rw [← hnb] at SBL PBL
                    have hnn : (nb != nb) = false := bne_self_eq_false _
                    clear hnb
                    refine wpAnyH_ready (rs := [5]) (by kernel_rfl) (by simp) ?_
                    refine AllReadyH.cons (by simp only [List.getElem?_toArray, List.getElem?_cons_succ, List.getElem?_cons_zero]; rfl) (fun K hK => ?_) ?_
                    rotate_left 1
                    · exact AllReadyH.nil
                    go_simp
                    refine (SBL.out _ B5.out).mono ?_; rintro r w6 ⟨rfl, hb⟩; have B6 := hide (B5.out.trans (hb.mono B5.out.size)); clear hb; go_wp2_with fail
                    refine hK.out _ _ ?_ (fun hHeld2 => ?_)
                    · ((try dsimp only) <;> (exact CC.out _ B6.out))
                    clear hHeld
                    have hHeld := hHeld2
                    clear hHeld2 hK K
                    try simp only [Act.put, List.setIfInBounds_toArray, List.set_cons_zero, List.set_cons_succ]
                    refine wpAnyH_ready (rs := [7]) (by kernel_rfl) (by simp) ?_
                    refine AllReadyH.cons (by simp only [List.getElem?_toArray, List.getElem?_cons_succ, List.getElem?_cons_zero]; rfl) (fun K hK => ?_) ?_
                    rotate_left 1
                    · exact AllReadyH.nil
                    go_simp
                    refine (PBL.out _ B6.out).mono ?_; rintro r w7 ⟨rfl, hb⟩; have B7 := hide (B6.out.trans (hb.mono B6.out.size)); clear hb; go_wp2_with fail
                    refine hK.out _ _ ?_ (fun hHeld2 => ?_)
                    · ((try dsimp only) <;> (exact CC.out _ B7.out))
                    clear hHeld
                    have hHeld := hHeld2
                    clear hHeld2 hK K
                    try simp only [Act.put, List.setIfInBounds_toArray, List.set_cons_zero, List.set_cons_succ]
                    refine wpAnyH_take (i := 8) (v := ?_) (by simp only [List.getElem?_toArray, List.getElem?_cons_succ, List.getElem?_cons_zero]; rfl) (by kernel_rfl) (by kernel_rfl) (by kernel_rfl) (fun _ _ _ h => h) (Or.inl ⟨by rfl, ?_⟩) (by assumption) ?_
                    rotate_left 1
                    · (intro w hSw; (try dsimp only at hSw); go_simp; try with_reducible rfl)
                    try simp only [Act.put, List.setIfInBounds_toArray, List.set_cons_zero, List.set_cons_succ]
                    try simp only [hnn]
                    refine wpAnyH_take (i := 9) (v := ?_) (by simp only [List.getElem?_toArray, List.getElem?_cons_succ, List.getElem?_cons_zero]; rfl) (by kernel_rfl) (by kernel_rfl) (by kernel_rfl) (fun _ _ _ h => h) (Or.inl ⟨by rfl, ?_⟩) (by assumption) ?_
                    rotate_left 1
                    · (intro w hSw; (try dsimp only at hSw); go_simp; try with_reducible rfl)
                    try simp only [Act.put, List.setIfInBounds_toArray, List.set_cons_zero, List.set_cons_succ]
                    refine wpAnyH_done (by kernel_rfl) ?_ _
                    refine NoPanic.normal ?_
                    clear hHeld
                    go_wp2_with fail
                    go_roundw
                    case rel => exact ⟨i + 1, by omega, by go_num, HB10.out.trans (B7.out.mono HB10.out.size)⟩
                    case measure => simp [intOf]; omega
                  · go_wp2_with fail
                    go_ret
                    exact ⟨rfl, BB9.out⟩
  · rw [decide_eq_false hfew]
    go_wp2_with fail
    refine (awake13 w2).mono ?_
    rintro e w3 ⟨rfl, hb⟩
    have B3 := hide (B2.out.trans (hb.mono B2.out.size))
    clear hb
    go_wp2_with fail
    go_ret
    exact ⟨rfl, B3.out⟩
end Go.Proofs.YtopjkpopdffkeaaDoor
