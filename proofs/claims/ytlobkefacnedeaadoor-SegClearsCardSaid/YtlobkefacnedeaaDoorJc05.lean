import Derived.Test.YtlobkefacnedeaaDoorJc04
import Derived.Deep.DeepCutAuto
import Derived.Deep.QuietTactic
import Derived.BigQuiet
set_option linter.unusedVariables false
set_option linter.unusedSimpArgs false
/- The walk of marlref06.Encode (printed by gen_smrenc.py). -/
namespace Go.Proofs.YtlobkefacnedeaaDoor
open Go.RowKit
set_option maxRecDepth 100000
attribute [local go_sem ↓] Go.wp_at_zero Go.wp_at_succ

theorem ckP_ok {e c i p x : Int} {fs : List FI} {is : List Int} (h : checkP e c i p x fs is = 0) : gdP e c i p x fs is ∧ szN fs is ≤ 88 := PV.gd (v := ⟨e, c, i, p, x, fs, is⟩) h
theorem own_bbR {w w' : World} {base n c : Nat} {A : Option Addr} {l : List UInt8} (h : OwnBy w base A n c l) (hb : Below w.heap.size w w') : OwnBy w' base A n c l := own_bel h hb
theorem run_elS {w : World} {A : Option Addr} {c k : Nat} (hk : k < 8) (hc : 88 ≤ c) : (Instr.slice 26 (.slice A 88 c) (some (.int .i64 (11 * (k : Int)))) (some (.int .i64 (11 * (k : Int) + 11))) none).run Tryd.prog w = .ok (.slice (cutA A c (11 * k)) 11 (c - 11 * k)) w := by
  have := run_cut_lh (P := Tryd.prog) etyB A 88 c w (11 * k) (11 * k + 11) .i64 .i64 (by omega) (by omega)
  rw [show 11 * k + 11 - 11 * k = 11 by omega] at this
  rw [show (11 * (k : Int)) = ((11 * k : Nat) : Int) by omega, show (((11 * k : Nat) : Int) + 11) = ((11 * k + 11 : Nat) : Int) by omega]
  exact this
theorem by_elS {w : World} {B c k : Nat} {A : Option Addr} {l : List UInt8} (h : By w B A 88 l) (hk : k < 8) (hc : 88 ≤ c) : By w B (cutA A c (11 * k)) 11 ((l.drop (11 * k)).take 11) := by
  have := Sl.cut h (i := 11 * k) (j := 11 * k + 11) (cap := c) (by omega) (by omega) (by omega)
  rw [show 11 * k + 11 - 11 * k = 11 by omega, u8s_drop, u8s_take] at this
  exact this
def slN : Value → Nat
  | .slice _ n _ => n
  | _ => 0
set_option maxRecDepth 100000 in
set_option maxHeartbeats 4000000 in
theorem renc_any (e c i p x : Int) (sum : Nat) (hsum : sum < 4294967296) (A1 A2 : Option Addr) (n1 c1 n2 c2 lo base lo2 base2 : Nat) (fs : List FI) (is : List Int) (w : World) (hf : FisAt lo base w A1 n1 fs) (hi : IntsAt lo2 base2 w A2 n2 is)
    (hck : checkP e c i p x fs is = 0) :
    Calls Tryd.prog 55 #[.agg (partC e c i p x A1 n1 c1 A2 n2 c2), .int .u32 (sum : Int)] w fun r w' => ∃ A k, r = .returned (.slice A 128 k) ∧ OwnBy w' w.heap.size A 128 k (encB e c (wordsB i p x fs is sum)) ∧ Below w.heap.size w w' := by
  have hsz := (ckP_ok hck).2
  have HG := hide (ckP_ok hck).1.2.1
  have HH := hide (ckP_ok hck).1.1
  have HL1 := hide hf.len
  have HL2 := hide (IntsAt.len hi)
  have hsz' : 10 + n2 + (4 * n1 + 2 * lsN fs) ≤ 88 := by have h1 := HL1.out; have h2 := HL2.out; unfold szN at hsz; rw [h1, h2] at hsz; exact hsz
  have HSZ := hide hsz'
  have HSZ2 := hide hsz
  have hn1 : n1 ≤ 19 := by omega
  have hn2 : n2 ≤ 78 := by omega
  have HF := hide hf
  have HI := hide hi
  clear hf hi hck hsz hsz'
  unfold partC at *
  have hs64 : IntKind.i64.wrap (sum : Int) = (sum : Int) := by rw [IntKind.wrap_i64]; omega
  go_enter Tryd.func55, Tryd.ntmps55
  go_upto_region 1 with fail
  have K1 := hide (Blk.new w 25 #[.int .i64 e, .int .i64 c, .int .i64 i, .int .i64 p, .int .i64 x, .slice A1 n1 c1, .slice A2 n2 c2])
  have B1 := hide ((Below.refl w.heap.size w).alloc (Nat.le_refl _) (.cells #[.int .i64 e, .int .i64 c, .int .i64 i, .int .i64 p, .int .i64 x, .slice A1 n1 c1, .slice A2 n2 c2] 25))
  obtain ⟨g2, hg2⟩ : ∃ g, g = w.heap.size := ⟨_, rfl⟩
  rw [← hg2] at K1 ⊢
  clear hg2
  generalize w.alloc (.cells #[.int .i64 e, .int .i64 c, .int .i64 i, .int .i64 p, .int .i64 x, .slice A1 n1 c1, .slice A2 n2 c2] 25) = w1 at *
  have CP := hide (fun (w' : World) (hb : Below w1.heap.size w1 w') => show w'.cell? ⟨g2, 0, none⟩ = some (.int .i64 e) ∧ w'.cell? ⟨g2, 1, none⟩ = some (.int .i64 c) ∧ w'.cell? ⟨g2, 2, none⟩ = some (.int .i64 i) ∧ w'.cell? ⟨g2, 3, none⟩ = some (.int .i64 p) ∧ w'.cell? ⟨g2, 4, none⟩ = some (.int .i64 x) ∧ w'.cell? ⟨g2, 5, none⟩ = some (.slice A1 n1 c1) ∧ w'.cell? ⟨g2, 6, none⟩ = some (.slice A2 n2 c2) from ⟨(K1.out.below hb).cell 0, (K1.out.below hb).cell 1, (K1.out.below hb).cell 2, (K1.out.below hb).cell 3, (K1.out.below hb).cell 4, (K1.out.below hb).cell 5, (K1.out.below hb).cell 6⟩)
  obtain ⟨q0, q1, q2, q3, q4, q5, q6⟩ := CP.out _ (Below.refl _ _)
  go_upto_region 2 with fail
  have O2 := hide (own_bytesS (w := w1) (base := w1.heap.size) (l := [b8 i, b8 p]) #[.int .u8 (i % 256), .int .u8 (p % 256)] (by rw [← b8_val, ← b8_val]; rfl) (Nat.le_refl _) (n := 2) rfl (by omega))
  have B2 := hide ((Below.refl w1.heap.size w1).alloc (Nat.le_refl _) (.cells #[.int .u8 (i % 256), .int .u8 (p % 256)] 5))
  generalize w1.alloc (.cells #[.int .u8 (i % 256), .int .u8 (p % 256)] 5) = w2 at *
  clear q0 q1 q2 q3 q4 q5 q6
  obtain ⟨q0, q1, q2, q3, q4, q5, q6⟩ := CP.out _ B2.out
  go_upto_region 3 with fail
  refine (rtwo_any x w2 HH.out.2.2.2.2.1 (by have := HH.out; unfold gdH at this; omega)).mono ?_
  rintro r w3 ⟨A3, k3, rfl, ho, hb⟩
  have P3 := hide ho
  have B3 := hide (B2.out.trans (hb.mono B2.out.size))
  have O3 := hide (own_bbR O2.out hb)
  clear ho hb
  go_upto_region 3 with (
    at_builtin
    refine wpList_appB (.tmp 19) (.tmp 22) O3.out (own_byS P3.out) B3.out rfl rfl rfl rfl (by omega) B3.out.size ?_
    intro A4 k4 w4 O4 B4)
  clear O3 B3 P3
  clear q0 q1 q2 q3 q4 q5 q6
  obtain ⟨q0, q1, q2, q3, q4, q5, q6⟩ := CP.out _ B4.out
  go_upto_region 4 with (
    at_builtin
    refine wpList_appB (.tmp 24) (.tmp 33) (own_al O4.out _) (by_lit2n w4 (n1 : Int) _ (n2 : Int) _ (by omega) (by omega)) (bel_al B4.out B4.out.size _) rfl rfl rfl rfl (by omega) (Nat.le_trans B4.out.size (by simp)) ?_
    intro A5 k5 w5 O5 B5)
  clear q0 q1 q2 q3 q4 q5 q6
  obtain ⟨q0, q1, q2, q3, q4, q5, q6⟩ := CP.out _ B5.out
  go_upto_region 5 with fail
  refine (rfourS sum w5 (by omega)).mono ?_
  rintro r w6 ⟨A6, k6, rfl, ho, hb⟩
  have P6 := hide ho
  have B6 := hide (B5.out.trans (hb.mono B5.out.size))
  have O6 := hide (own_bbR O5.out hb)
  clear ho hb
  go_upto_region 5 with (
    at_builtin
    refine wpList_appB (.tmp 35) (.tmp 38) O6.out (own_byS P6.out) B6.out rfl rfl rfl rfl (by omega) B6.out.size ?_
    intro A7 k7 w7 O7 B7)
  clear O6 B6 P6
  clear q0 q1 q2 q3 q4 q5 q6
  obtain ⟨q0, q1, q2, q3, q4, q5, q6⟩ := CP.out _ B7.out
  go_upto_region 6 with fail
  clear q0 q1 q2 q3 q4 q5 q6
  obtain ⟨HB, hHB⟩ : ∃ H, H = headB i p x n1 n2 sum := ⟨_, rfl⟩
  have HHB := hide hHB
  have O8 := hide (show OwnBy w7 w1.heap.size A7 10 k7 HB by
    have h1 := O7.out
    rw [le4_tw sum hsum] at h1
    rw [hHB]
    simpa [headB] using h1)
  clear hHB O2 B2 O4 B4 O5 B5 O7
  go_loopw [5, 43] (fun v y wr => ∃ (j m k : Nat) (A : Option Addr), j ≤ n1 ∧ y = .int .i64 (j : Int) ∧ m = 10 + (4 * j + 2 * lsN (fs.take j)) ∧ v = .slice A m k ∧ OwnBy wr w1.heap.size A m k (HB ++ (fs.take j).flatMap fileB) ∧ Below w1.heap.size w1 wr) (fun _ y _ => n1 - (intOf y).toNat)
  case atStart => exact ⟨0, 10, k7, A7, Nat.zero_le _, rfl, by simp [lsN, sumN], rfl, by simpa using O8.out, B7.out⟩
  case round =>
    clear O8 B7
    obtain ⟨j, m, k, A, hj, rfl, hm, rfl, ho, hb⟩ := hrel
    have HM := hide hm
    have O3 := hide ho
    have B3 := hide hb
    have BW := hide (B1.out.trans (hb.mono B1.out.size))
    clear hm ho hb
    by_cases hlt : j < n1
    · obtain ⟨b, off, f, A3, c3, hA, hFr, hfi, hI3, r0, r1, r2⟩ := HF.out.at hlt
      replace r0 := (BW.out.cell (p := ⟨b, off + j * 3, none⟩) hFr.2.1).trans r0
      replace r1 := (BW.out.cell (p := ⟨b, off + j * 3 + 1, none⟩) hFr.2.1).trans r1
      replace r2 := (BW.out.cell (p := ⟨b, off + j * 3 + 2, none⟩) hFr.2.1).trans r2
      have HGF := hide (HG.out f (List.mem_of_getElem? hfi))
      have HLT := hide (lsN_take hfi)
      have HLE := hide (lsN_le fs (j + 1))
      subst hA
      have HFI := hide hfi
      have HI3 := hide hI3
      obtain ⟨m5, hm5⟩ : ∃ n, n = f.ls.length := ⟨_, rfl⟩
      rw [← hm5] at r2 HI3 HLT
      have HM5 := hide hm5
      have hMB : m + 4 + 2 * m5 ≤ 88 := by have := HM.out; have := HLT.out; have := HLE.out; have := HSZ.out; omega
      have HMB := hide hMB
      clear hfi hI3 hFr hm5
      have hjs : (j : Int) < (n1 : Int) := by omega
      have hw64 : IntKind.i64.wrap (j : Int) = (j : Int) := by rw [IntKind.wrap_i64]; omega
      obtain ⟨q0, q1, q2, q3, q4, q5, q6⟩ := CP.out _ B3.out
      go_upto_region 9 with fail
      clear q0 q1 q2 q3 q4 q5 q6
      obtain ⟨w5, hw5⟩ : ∃ W, W = wr.alloc (.cells #[.int .i64 f.ino, .int .i64 f.ver, .slice A3 m5 c3] 92) := ⟨_, rfl⟩
      have X5 : Hid (Blk w5 wr.heap.size 92 #[.int .i64 f.ino, .int .i64 f.ver, .slice A3 m5 c3]) := hide (by rw [hw5]; exact Blk.new _ _ _)
      have B5 : Hid (Below wr.heap.size wr w5) := hide (by rw [hw5]; exact (Below.refl _ _).alloc (Nat.le_refl _) _)
      rw [← hw5]
      clear hw5 r0 r1 r2
      obtain ⟨g5, hg5⟩ : ∃ g, g = wr.heap.size := ⟨_, rfl⟩
      have G5 := hide (show w1.heap.size ≤ g5 ∧ (∀ g, (Value.slice A m k).ownBlock = some g → g ≠ g5) from ⟨by rw [hg5]; exact B3.out.size, fun g hg => by have := (O3.out.lt g hg).2; omega⟩)
      rw [← hg5] at X5 ⊢
      clear hg5
      have O5 := hide (own_bbR O3.out B5.out)
      have B25 := hide (B3.out.trans (B5.out.mono B3.out.size))
      clear B5
      have r0 := X5.out.cell 0
      have r1 := X5.out.cell 1
      have r2 := X5.out.cell 2
      simp only [List.getElem?_toArray, List.getElem?_cons_succ, List.getElem?_cons_zero] at r0 r1 r2
      go_upto_region 10 with (
        at_builtin
        refine wpList_appBX (.tmp 51) (.tmp 55) (own_al O5.out _) (by_lit1n w5 f.ino _ rfl) (bel_al B25.out B25.out.size _) (X5.out.alloc _) (by decide) rfl rfl rfl rfl (by omega) (Nat.le_trans B25.out.size (by simp)) ?_
        intro A6 k6 w6 O6 B6 X6)
      clear O5 B25 X5
      clear r0 r1 r2
      have r0 := X6.out.cell 0
      have r1 := X6.out.cell 1
      have r2 := X6.out.cell 2
      simp only [List.getElem?_toArray, List.getElem?_cons_succ, List.getElem?_cons_zero] at r0 r1 r2
      go_upto_region 11 with fail
      refine (rtwo_any f.ver w6 HGF.out.2.1.1 (by have := HGF.out.2.1; omega)).mono ?_
      rintro r w7 ⟨A7, k7, rfl, ho, hb⟩
      have P7 := hide ho
      have B7 := hide (B6.out.trans (hb.mono B6.out.size))
      have O7 := hide (own_bbR O6.out hb)
      have X7 := hide (X6.out.below hb)
      clear ho hb O6 B6 X6
      go_upto_region 11 with (
        at_builtin
        refine wpList_appBX (.tmp 57) (.tmp 60) O7.out (own_byS P7.out) B7.out X7.out (by decide) rfl rfl rfl rfl (by omega) B7.out.size ?_
        intro A8 k8 w8 O8 B8 X8)
      clear O7 B7 X7 P7
      clear r0 r1 r2
      have r0 := X8.out.cell 0
      have r1 := X8.out.cell 1
      have r2 := X8.out.cell 2
      simp only [List.getElem?_toArray, List.getElem?_cons_succ, List.getElem?_cons_zero] at r0 r1 r2
      go_upto_region 12 with (
        at_builtin
        refine wpList_appBX (.tmp 62) (.tmp 67) (own_al O8.out _) (by_lit1n w8 (m5 : Int) _ (by omega)) (bel_al B8.out B8.out.size _) (X8.out.alloc _) (by decide) rfl rfl rfl rfl (by omega) (Nat.le_trans B8.out.size (by simp)) ?_
        intro A9 k9 w9 O9 B9 X9)
      clear O8 B8 X8
      clear r0 r1 r2
      have r0 := X9.out.cell 0
      have r1 := X9.out.cell 1
      have r2 := X9.out.cell 2
      simp only [List.getElem?_toArray, List.getElem?_cons_succ, List.getElem?_cons_zero] at r0 r1 r2
      go_upto_region 13 with fail
      clear r0 r1 r2
      obtain ⟨L0, hL0⟩ : ∃ l, l = (HB ++ (fs.take j).flatMap fileB) ++ [b8 f.ino] ++ tw f.ver ++ [b8 (m5 : Int)] := ⟨_, rfl⟩
      have HL0 := hide hL0
      have O10 := hide (show OwnBy w9 w1.heap.size A9 (m + 4) k9 L0 by rw [hL0]; exact O9.out)
      clear hL0 O9
      have hm58 : m5 ≤ 88 := by omega
      go_loopw [5, 72] (fun v y wr => ∃ (q kq : Nat) (Aq : Option Addr), q ≤ m5 ∧ y = .int .i64 (q : Int) ∧ v = .slice Aq (m + 4 + 2 * q) kq ∧ OwnBy wr w1.heap.size Aq (m + 4 + 2 * q) kq (L0 ++ (f.ls.take q).flatMap (fun l => tw (l + 1000))) ∧ Below w1.heap.size w1 wr ∧ Blk wr g5 92 #[.int .i64 f.ino, .int .i64 f.ver, .slice A3 m5 c3]) (fun _ y _ => m5 - (intOf y).toNat)
      case atStart => exact ⟨0, k9, A9, Nat.zero_le _, rfl, rfl, by simpa using O10.out, B9.out, X9.out⟩
      case round =>
        clear O10 B9 X9
        obtain ⟨q, kq, Aq, hq, rfl, rfl, ho, hb, hx⟩ := hrel
        have O7 := hide ho
        have B7 := hide hb
        have X7 := hide hx
        have BQ := hide (B1.out.trans (hb.mono B1.out.size))
        clear ho hb hx
        have r2 := X7.out.cell 2
        simp only [List.getElem?_toArray, List.getElem?_cons_succ, List.getElem?_cons_zero] at r2
        by_cases hlq : q < m5
        · obtain ⟨zn, hzn⟩ : ∃ x, f.ls[q]? = some x := ⟨_, List.getElem?_eq_getElem (by rw [← HM5.out]; exact hlq)⟩
          obtain ⟨b3, off3, hA3, -, hc⟩ := RwAt.at (RwAt.below HI3.out BQ.out) (by omega) (by decide)
          have zc := hc q (.int .i64 zn) (by rw [intC, List.getElem?_map, hzn]; rfl)
          subst hA3
          have HZN := hide hzn
          have hzb := gdF_ls HGF.out zn (List.mem_of_getElem? hzn)
          have HZB := hide hzb
          have hx : IntKind.i64.wrap (zn + 1000) = zn + 1000 := by rw [IntKind.wrap_i64]; omega
          have hqs : (q : Int) < (m5 : Int) := by omega
          have hq64 : IntKind.i64.wrap (q : Int) = (q : Int) := by rw [IntKind.wrap_i64]; omega
          clear hzn hc hzb
          go_wp2_with fail
          refine (rtwo_any (zn + 1000) wr (by have := HZB.out; omega) (by have := HZB.out; omega)).mono ?_
          rintro r w8 ⟨A8, k8, rfl, ho, hb⟩
          have P8 := hide ho
          have B8 := hide (B7.out.trans (hb.mono B7.out.size))
          have O9 := hide (own_bbR O7.out hb)
          have X8 := hide (X7.out.below hb)
          clear ho hb O7 X7 zc r2
          go_wp2_with (
            at_builtin
            refine wpList_appBX (.tmp 75) (.tmp 82) O9.out (own_byS P8.out) B8.out X8.out (by decide) rfl rfl rfl rfl (by omega) B8.out.size ?_
            intro A9 k9 w9 O10 B10 X10)
          go_roundw
          case rel =>
            refine ⟨q + 1, k9, A9, by omega, by go_num, by rw [show m + 4 + 2 * (q + 1) = m + 4 + 2 * q + 2 from by omega], ?_, B10.out, X10.out⟩
            have h1 := O10.out
            rw [List.take_add_one, HZN.out, List.flatMap_append, ← List.append_assoc, show m + 4 + 2 * (q + 1) = m + 4 + 2 * q + 2 from by omega]
            simpa using h1
          case measure => simp [intOf]; omega
        · have hqm : q = m5 := by omega
          have HQM := hide hqm
          clear hqm
          go_wp2_with fail
          go_roundw
          case rel =>
            refine ⟨j + 1, m + 4 + 2 * q, kq, Aq, by omega, by go_num, ?_, rfl, ?_, B7.out⟩
            · have h1 := HM.out
              have h2 := HLT.out
              have h3 := HQM.out
              omega
            · have h1 := O7.out
              rw [HQM.out, List.take_of_length_le (by rw [← HM5.out]; exact Nat.le_refl _), HL0.out] at h1
              rw [HQM.out, List.take_add_one, HFI.out, List.flatMap_append]
              have e1 : HB ++ (List.flatMap fileB (List.take j fs) ++ List.flatMap fileB (some f).toList) = HB ++ List.flatMap fileB (List.take j fs) ++ [b8 f.ino] ++ tw f.ver ++ [b8 (m5 : Int)] ++ List.flatMap (fun l => tw (l + 1000)) f.ls := by
                simp [fileB, HM5.out]
              rw [e1]
              exact h1
          case measure => simp [intOf]; omega
    · have hjn : j = n1 := by omega
      have hall : fs.take j = fs := List.take_of_length_le (by rw [HL1.out]; omega)
      have O4 := hide (show OwnBy wr w1.heap.size A m k (HB ++ fs.flatMap fileB) by have := O3.out; rwa [hall] at this)
      have HM4 := hide (show m = 10 + (4 * n1 + 2 * lsN fs) by have := HM.out; rwa [hall, hjn] at this)
      obtain ⟨q0, q1, q2, q3, q4, q5, q6⟩ := CP.out _ B3.out
      have hm88 : m + n2 ≤ 88 := by have := HM4.out; have := HSZ.out; omega
      clear hall O3 HM hjn
      go_wp2_with fail
      clear q0 q1 q2 q3 q4 q5 q6
      go_loopw [5, 89] (fun v y wr => ∃ (q kq : Nat) (Aq : Option Addr), q ≤ n2 ∧ y = .int .i64 (q : Int) ∧ v = .slice Aq (m + q) kq ∧ OwnBy wr w1.heap.size Aq (m + q) kq (HB ++ fs.flatMap fileB ++ (is.take q).map b8) ∧ Below w1.heap.size w1 wr) (fun _ y _ => n2 - (intOf y).toNat)
      case atStart => exact ⟨0, k, A, Nat.zero_le _, rfl, rfl, by simpa using O4.out, B3.out⟩
      case round =>
        clear O4 B3 BW
        obtain ⟨q, kq, Aq, hq, rfl, rfl, ho, hb⟩ := hrel
        have O7 := hide ho
        have B7 := hide hb
        have BQ := hide (B1.out.trans (hb.mono B1.out.size))
        clear ho hb
        obtain ⟨q0, q1, q2, q3, q4, q5, q6⟩ := CP.out _ B7.out
        by_cases hlq : q < n2
        · obtain ⟨zn, hzn⟩ : ∃ x, is[q]? = some x := ⟨_, List.getElem?_eq_getElem (by rw [HL2.out]; exact hlq)⟩
          obtain ⟨b3, off3, hA3, -, hc⟩ := RwAt.at (RwAt.below HI.out BQ.out) (by omega) (by decide)
          have zc := hc q (.int .i64 zn) (by rw [intC, List.getElem?_map, hzn]; rfl)
          subst hA3
          have HZN := hide hzn
          have hqs : (q : Int) < (n2 : Int) := by omega
          have hq64 : IntKind.i64.wrap (q : Int) = (q : Int) := by rw [IntKind.wrap_i64]; omega
          clear hzn hc
          go_wp2_with (
            at_builtin
            refine wpList_appB (.tmp 92) (.tmp 99) (own_al O7.out _) (by_lit1n wr zn _ rfl) (bel_al B7.out B7.out.size _) rfl rfl rfl rfl (by omega) (Nat.le_trans B7.out.size (by simp)) ?_
            intro A9 k9 w9 O10 B10)
          clear zc q0 q1 q2 q3 q4 q5 q6
          go_roundw
          case rel =>
            refine ⟨q + 1, k9, A9, by omega, by go_num, by rw [show m + (q + 1) = m + q + 1 from by omega], ?_, B10.out⟩
            have h1 := O10.out
            rw [List.take_add_one, HZN.out, List.map_append, ← List.append_assoc, show m + (q + 1) = m + q + 1 from by omega]
            simpa using h1
          case measure => simp [intOf]; omega
        · have hqn : q = n2 := by omega
          obtain ⟨M, hM⟩ : ∃ M, M = m + q := ⟨_, rfl⟩
          have hME : M = szN fs is := by have := HM4.out; rw [hM, hqn, this]; unfold szN; rw [HL1.out, HL2.out]; omega
          have O8 := hide (show OwnBy wr w1.heap.size Aq (m + q) kq (bodyB i p x fs is sum) by
            have h1 := O7.out
            rw [List.take_of_length_le (by rw [HL2.out]; omega), HHB.out] at h1
            unfold bodyB
            rw [HL1.out, HL2.out]
            exact h1)
          rw [← hM] at O8 ⊢
          have hM88 : M ≤ 88 := by rw [hME]; exact HSZ2.out
          have HME := hide hME
          clear hM hME hqn O7 HM4 hm88
          go_wp2_with fail
          clear q0 q1 q2 q3 q4 q5 q6
          go_loopw [5] (fun v wr => ∃ (q kq : Nat) (Aq : Option Addr), M ≤ q ∧ q ≤ 88 ∧ v = .slice Aq q kq ∧ OwnBy wr w1.heap.size Aq q kq (bodyB i p x fs is sum ++ List.replicate (q - M) 0) ∧ Below w1.heap.size w1 wr) (fun v _ => 88 - slN v)
          case atStart => exact ⟨M, kq, Aq, Nat.le_refl _, hM88, rfl, by rw [Nat.sub_self]; simpa using O8.out, B7.out⟩
          case round =>
            clear O8 B7 BQ hq hlq hM88
            obtain ⟨q, kq, Aq, hq1, hq2, rfl, ho, hb⟩ := hrel
            have O7 := hide ho
            have B7 := hide hb
            clear ho hb
            by_cases hlq : q < 88
            · have hqs : (q : Int) < 88 := by omega
              go_wp2_with (
                at_builtin
                refine wpList_appB (.tmp 105) (.tmp 106) (own_al O7.out _) (by_lit1n wr 0 _ (by omega)) (bel_al B7.out B7.out.size _) rfl rfl rfl rfl (by omega) (Nat.le_trans B7.out.size (by simp)) ?_
                intro A9 k9 w9 O10 B10)
              go_roundw
              case rel =>
                refine ⟨q + 1, k9, A9, by omega, by omega, rfl, ?_, B10.out⟩
                have h1 := O10.out
                rw [show q + 1 - M = (q - M) + 1 by omega, List.replicate_succ', ← List.append_assoc]
                exact h1
              case measure => simp [slN]; omega
            · have hq88 : q = 88 := by omega
              have O8 := hide (show OwnBy wr w1.heap.size Aq q kq (wordsB i p x fs is sum) by
                have h1 := O7.out
                unfold wordsB
                rw [← HME.out, ← hq88]
                exact h1)
              have HQ88 := hide hq88
              have hqs : ¬ (q : Int) < 88 := by omega
              clear O7 hq1 hq2 hlq
              obtain ⟨Lw, hLw⟩ : ∃ l, l = wordsB i p x fs is sum := ⟨_, rfl⟩
              rw [← hLw] at O8
              have HLW := hide hLw
              clear hLw hq88
              go_upto_region 27 with fail
              have LK := hide (show 88 ≤ kq by
                obtain ⟨_, _, e1, h1, _⟩ := own_form O8.out
                injection e1 with e1 e2 e3
                have := HQ88.out
                omega)
              obtain ⟨wS, hwS⟩ : ∃ W, W = wr := ⟨_, rfl⟩
              subst hwS
              go_loopw [10, 11] (fun v y wq => ∃ (s ko : Nat) (Ao : Option Addr), s ≤ 8 ∧ y = .int .i64 (s : Int) ∧ v = .slice Ao (16 * s) ko ∧ OwnBy wq wS.heap.size Ao (16 * s) ko ((List.range s).flatMap fun t => secB e c Lw t) ∧ Below wS.heap.size wS wq) (fun _ y _ => 8 - (intOf y).toNat)
              case atStart => exact ⟨0, 0, none, by omega, rfl, rfl, World.ownsRow_nil _ _ _ _, Below.refl _ _⟩
              case round =>
                obtain ⟨s, ko, Ao, hs, rfl, rfl, ho, hb⟩ := hrel
                have O9 := hide ho
                have B9 := hide hb
                clear ho hb
                by_cases hls : s < 8
                · have hss : (s : Int) < 8 := by omega
                  have hs64 : IntKind.i64.wrap (s : Int) = (s : Int) := by rw [IntKind.wrap_i64]; omega
                  obtain ⟨q0, q1, q2, q3, q4, q5, q6⟩ := CP.out _ (B7.out.trans (B9.out.mono B7.out.size))
                  go_upto_region 30 with fail
                  refine (rtwo_any e wr HH.out.1.1 (by have := HH.out.1; omega)).mono ?_
                  rintro r w10 ⟨A10, k10, rfl, ho, hb⟩
                  have P10 := hide ho
                  have B10 := hide (B9.out.trans (hb.mono B9.out.size))
                  have O10 := hide (own_bbR O9.out hb)
                  clear ho hb q0 q1 q2 q3 q4 q5 q6
                  go_upto_region 30 with (
                    at_builtin
                    refine wpList_appB (.tmp 112) (.tmp 115) O10.out (own_byS P10.out) B10.out rfl rfl rfl rfl (by omega) B10.out.size ?_
                    intro A11 k11 w11 O11 B11)
                  clear O9 O10 P10
                  obtain ⟨q0, q1, q2, q3, q4, q5, q6⟩ := CP.out _ (B7.out.trans (B11.out.mono B7.out.size))
                  go_upto_region 31 with fail
                  refine (rtwo_any c w11 HH.out.2.1.1 (by have := HH.out.2.1; omega)).mono ?_
                  rintro r w12 ⟨A12, k12, rfl, ho, hb⟩
                  have P12 := hide ho
                  have B12 := hide (B11.out.trans (hb.mono B11.out.size))
                  have O12 := hide (own_bbR O11.out hb)
                  clear ho hb q0 q1 q2 q3 q4 q5 q6
                  go_upto_region 31 with (
                    at_builtin
                    refine wpList_appB (.tmp 117) (.tmp 120) O12.out (own_byS P12.out) B12.out rfl rfl rfl rfl (by omega) B12.out.size ?_
                    intro A13 k13 w13 O13 B13)
                  clear O11 O12 P12 B10 B11 B12
                  go_upto_region 32 with (
                    at_builtin
                    refine wpList_appB (.tmp 122) (.tmp 125) (own_al O13.out _) (by_lit1n w13 (s : Int) _ (by omega)) (bel_al B13.out B13.out.size _) rfl rfl rfl rfl (by omega) (Nat.le_trans B13.out.size (by simp)) ?_
                    intro A14 k14 w14 O14 B14)
                  have O8b := hide (own_bbR O8.out B14.out)
                  have hcut : ∀ W : World, (Instr.slice 26 (.slice Aq q kq) (some (.int .i64 (11 * (s : Int)))) (some (.int .i64 (11 * (s : Int) + 11))) none).run Tryd.prog W = .ok (.slice (cutA Aq kq (11 * s)) 11 (kq - 11 * s)) W := fun W => by rw [HQ88.out]; exact run_elS hls LK.out
                  have CUT := hide (by_elS (B := w14.heap.size) (k := s) (c := kq) (by have := own_byS O8b.out; rw [HQ88.out] at this; exact this) hls LK.out)
                  go_wp2_with (
                    at_builtin
                    refine wpList_appB (.tmp 127) (.tmp 134) O14.out CUT.out B14.out rfl rfl rfl rfl (by omega) B14.out.size ?_
                    intro A15 k15 w15 O15 B15)
                  clear hcut
                  go_roundw
                  case rel =>
                    refine ⟨s + 1, k15, A15, by omega, by go_num, by rw [show 16 * (s + 1) = 16 * s + 2 + 2 + 1 + 11 from by omega], ?_, B15.out⟩
                    have h1 := O15.out
                    rw [show 16 * (s + 1) = 16 * s + 2 + 2 + 1 + 11 from by omega, List.range_succ, List.flatMap_append]
                    simpa [secB] using h1
                  case measure => simp [intOf]; omega
                · have hs8 : s = 8 := by omega
                  have O10 := hide (show OwnBy wr wS.heap.size Ao (16 * s) ko (encB e c Lw) by
                    have h1 := O9.out
                    unfold encB
                    rw [← hs8]
                    exact h1)
                  have HS8 := hide (show 16 * s = 128 by omega)
                  have hss : ¬ (s : Int) < 8 := by omega
                  clear O9 hs8
                  go_wp2_with fail
                  go_ret
                  refine ⟨Ao, ko, ?_, ?_, B1.out.trans ((B7.out.trans (B9.out.mono B7.out.size)).mono B1.out.size)⟩
                  · show Ending.returned (Value.slice Ao (16 * s) ko) = _
                    rw [HS8.out]
                  · have h1 := O10.out
                    rw [HS8.out, HLW.out] at h1
                    exact own_bq h1 (Nat.le_trans B1.out.size B7.out.size)
end Go.Proofs.YtlobkefacnedeaaDoor

/- The walk of marlref15.Write. -/
namespace Go.Proofs.YtlobkefacnedeaaDoor
open Go.RowKit
set_option maxRecDepth 100000
attribute [local go_sem ↓] Go.wp_at_zero Go.wp_at_succ

theorem txt_take (l : List UInt8) (k : Nat) : (txt l).extract 0 k = txt (l.take k) := by
  apply ByteArray.ext
  apply Array.ext'
  simp [txt, ByteArray.data_extract]
theorem txt_drop (l : List UInt8) (k n : Nat) (h : l.length = n) : (txt l).extract k n = txt (l.drop k) := by
  apply ByteArray.ext
  apply Array.ext'
  simp [txt, ByteArray.data_extract, ← h]
  exact List.take_of_length_le (by rw [List.length_drop]; exact Nat.le_refl _)
theorem run_txt_h (l : List UInt8) (h : l.length = 128) (w : World) : (Instr.slice 9 (.string (txt l)) none (some (.int .i64 64)) none).run Tryd.prog w = .ok (.string (txt (l.take 64))) w := by
  have := run_slice_string_h (P := Tryd.prog) w 9 (txt l) Tryd.underlying9 .i64 64 (by decide) (by rw [txt_len, h]; decide)
  rw [this]
  rw [← txt_take]
  rfl
theorem run_txt_l (l : List UInt8) (h : l.length = 128) (w : World) : (Instr.slice 9 (.string (txt l)) (some (.int .i64 64)) none none).run Tryd.prog w = .ok (.string (txt (l.drop 64))) w := by
  have := run_slice_string_l (P := Tryd.prog) w 9 (txt l) Tryd.underlying9 .i64 64 (by decide) (by rw [txt_len, h]; decide)
  rw [this, txt_len, h]
  rw [← txt_drop l 64 128 h]
  rfl
theorem RS.start2 {base g1 g2 : Nat} {w w1 : World} {As Aq : Option Addr} {cs cq : Nat} {D : Dsk} (h : RefM w base As cs Aq cq D) (hb : Below w.heap.size w w1) (h1 : w.heap.size ≤ g1 ∧ g1 < w1.heap.size) (h2 : w.heap.size ≤ g2 ∧ g2 < w1.heap.size) : RS base w w1 As Aq As cs Aq cq D g1 g2 := RS.start h hb h1 h2
set_option maxHeartbeats 8000000 in
theorem rwrite15 (base : Nat) (As : Option Addr) (cs : Nat) (Aq : Option Addr) (cq : Nat) (D : Dsk) (a : Int) (ha64 : I64 a) (v : PV) (A1 A2 : Option Addr) (n1 c1 n2 c2 lo base1 lo2 base2 : Nat) (A : Option Addr) (m c B : Nat) (bs : List (List UInt8)) (w : World) (h : RefM w base As cs Aq cq D) (hbs : base ≤ w.heap.size)
    (hf : FisAt lo base1 w A1 n1 v.fs) (hi : IntsAt lo2 base2 w A2 n2 v.is) (hn1 : n1 ≤ 1000) (hn2 : n2 ≤ 100000) (hls : lsN v.fs ≤ 100000) (h64 : ∀ f ∈ v.fs, ∀ x ∈ f.ls, I64 x)
    (hA : Sl w B A m (strC bs)) (hB : B ≤ w.heap.size) (hbl : ∀ b ∈ bs, b.length ≤ 100000) (hm : m ≤ 100000) (hs : D.steps ≤ 700000) (hq : D.queue.length ≤ 700000) :
    Calls Tryd.prog 21 #[.agg (refV As cs Aq cq D), .int .i64 a, .agg (partC v.e v.c v.i v.p v.x A1 n1 c1 A2 n2 c2), .slice A m c] w (RefAns base w As Aq (wrS D a v bs)) := by
  have HBS := hide hbs
  have HSQ := hide (And.intro hs hq)
  have HA := hide (hA.more hB)
  have HL := hide (show bs.length = m by have := hA.len; rwa [strC_len] at this)
  have HBL := hide hbl
  have HF := hide hf
  have HI := hide hi
  have H64 := hide h64
  have HLN := hide (And.intro hf.len (IntsAt.len hi))
  have A64 := hide ha64
  obtain ⟨N, hN⟩ : ∃ N, N = D.sure.length := ⟨_, rfl⟩
  have HN := hide (show N = D.sure.length ∧ N ≤ 4096 from ⟨hN, by have := h.ok.n; omega⟩)
  have hN4 : N ≤ 4096 := HN.out.2
  obtain ⟨w1, hw⟩ : ∃ W, W = ((w.alloc (.cells #[.slice As D.sure.length cs, .slice Aq D.queue.length cq, .int .i64 (D.steps : Int), .int .i64 D.left] 51)).alloc (.cells #[.int .i64 v.e, .int .i64 v.c, .int .i64 v.i, .int .i64 v.p, .int .i64 v.x, .slice A1 n1 c1, .slice A2 n2 c2] 25)).alloc (.cells #[.slice none 0 0, .slice none 0 0, .int .i64 0, .int .i64 0] 51) := ⟨_, rfl⟩
  have K4 : Hid (Blk w1 w.heap.size 51 #[.slice As D.sure.length cs, .slice Aq D.queue.length cq, .int .i64 (D.steps : Int), .int .i64 D.left]) := hide (by rw [hw]; exact ((Blk.new _ _ _).alloc _).alloc _)
  have X6 : Hid (Blk w1 (w.heap.size + 1) 25 #[.int .i64 v.e, .int .i64 v.c, .int .i64 v.i, .int .i64 v.p, .int .i64 v.x, .slice A1 n1 c1, .slice A2 n2 c2]) := hide (by
    rw [hw]
    have := (Blk.new (w.alloc (.cells #[.slice As D.sure.length cs, .slice Aq D.queue.length cq, .int .i64 (D.steps : Int), .int .i64 D.left] 51)) 25 #[.int .i64 v.e, .int .i64 v.c, .int .i64 v.i, .int .i64 v.p, .int .i64 v.x, .slice A1 n1 c1, .slice A2 n2 c2]).alloc (.cells #[.slice none 0 0, .slice none 0 0, .int .i64 0, .int .i64 0] 51)
    simpa using this)
  have K8 : Hid (Blk w1 (w.heap.size + 1 + 1) 51 #[.slice none 0 0, .slice none 0 0, .int .i64 0, .int .i64 0]) := hide (by
    rw [hw]
    have := Blk.new ((w.alloc (.cells #[.slice As D.sure.length cs, .slice Aq D.queue.length cq, .int .i64 (D.steps : Int), .int .i64 D.left] 51)).alloc (.cells #[.int .i64 v.e, .int .i64 v.c, .int .i64 v.i, .int .i64 v.p, .int .i64 v.x, .slice A1 n1 c1, .slice A2 n2 c2] 25)) 51 #[.slice none 0 0, .slice none 0 0, .int .i64 0, .int .i64 0]
    simpa using this)
  have ba : Below w.heap.size w w1 := by rw [hw]; exact (((Below.refl _ _).alloc (Nat.le_refl _) _).alloc (by simp) _).alloc (by simp; omega) _
  have RN := hide (RS.start (g1 := w.heap.size) (g2 := w.heap.size + 1 + 1) h ba ⟨Nat.le_refl _, K4.out.lt⟩ ⟨by omega, K8.out.lt⟩)
  clear h hbs hs hq ba hA hB hbl hf hi h64 ha64
  obtain ⟨R, hR⟩ : ∃ R, R = wrS D a v bs := ⟨_, rfl⟩
  have HR := hide hR
  rw [← hR]
  clear hR
  unfold refV partC
  rw [← hN] at hw K4 ⊢
  clear hN
  go_enter Tryd.func21, Tryd.ntmps21
  go_upto_region 1 with fail
  rw [← hw]
  obtain ⟨g4, hg4⟩ : ∃ g, g = w.heap.size := ⟨_, rfl⟩
  rw [← hg4] at K4 X6 K8 RN ⊢
  obtain ⟨g6, hg6⟩ : ∃ g, g = g4 + 1 := ⟨_, rfl⟩
  rw [← hg6] at X6 K8 RN ⊢
  obtain ⟨g8, hg8⟩ : ∃ g, g = g6 + 1 := ⟨_, rfl⟩
  rw [← hg8] at K8 RN ⊢
  have G := hide (show g4 ≠ g6 ∧ g4 ≠ g8 ∧ g6 ≠ g8 by omega)
  clear hw hg4 hg6 hg8
  obtain ⟨y0, y1, y2, y3, y4, y5, y6⟩ := op7 X6.out
  go_wp2_with fail
  clear y0 y1 y2 y3 y4 y5 y6
  refine (rcheck_any v.e v.c v.i v.p v.x A1 A2 n1 c1 n2 c2 _ _ _ _ v.fs v.is w1 (HF.out.below RN.out.n.bel) (RwAt.below HI.out RN.out.n.bel) (by omega) hn2 hls H64.out).mono ?_
  rintro r w2 ⟨rfl, hb⟩
  replace K4 := hide (K4.out.below hb)
  replace X6 := hide (X6.out.below hb)
  replace K8 := hide (K8.out.below hb)
  replace RN := hide (RN.out.below hb)
  clear hb
  obtain ⟨q, hq⟩ : ∃ q, q = checkP v.e v.c v.i v.p v.x v.fs v.is := ⟨_, rfl⟩
  have HQK := hide (show v.ck = q from hq.symm)
  rw [← hq]
  clear hq
  by_cases hck : q = 0
  rotate_left
  · have hqn : (q != 0) = true := bne_iff_ne.2 hck
    have HP := hide (show R = (q, D) by rw [HR.out]; unfold wrS; rw [if_pos (by rw [HQK.out]; exact hck), HQK.out])
    clear hck
    obtain ⟨c0, c1, c2, c3, -⟩ := cell4 K4.out
    obtain ⟨d0, d1, d2, d3, f0, f1, f2, f3⟩ := cell4 K8.out
    go_wp2_with fail
    exact ret_da rfl rfl rfl rfl (set4b K8.out _ _ _ _) (by rw [HP.out, HN.out.1]; exact ⟨As, cs, Aq, cq, rfl, (RN.out.set4 (.inr rfl) _ _ _ _).n⟩)
  subst hck
  obtain ⟨y0, y1, y2, y3, y4, y5, y6⟩ := op7 X6.out
  go_wp2_with fail
  clear y0 y1 y2 y3 y4 y5 y6
  refine (rblocks_any v.e v.c v.i v.p v.x A1 A2 n1 c1 n2 c2 _ _ v.fs w2 (HF.out.below RN.out.n.bel) (by omega) hn2 hls).mono ?_
  rintro r w3 ⟨rfl, hb⟩
  replace K4 := hide (K4.out.below hb)
  replace X6 := hide (X6.out.below hb)
  replace K8 := hide (K8.out.below hb)
  replace RN := hide (RN.out.below hb)
  clear hb
  have HNV := hide (show 2 + n2 + lsN v.fs = v.n by unfold PV.n; rw [HLN.out.2])
  rw [HNV.out]
  obtain ⟨n, hn⟩ : ∃ n, n = v.n := ⟨_, rfl⟩
  have HVN := hide (show n = v.n ∧ 2 ≤ n ∧ n ≤ 200 from ⟨hn, by rw [hn]; exact PV.n_bd HQK.out⟩)
  rw [← hn]
  have hn200 : n ≤ 200 := HVN.out.2.2
  clear hn HNV
  obtain ⟨x, hx⟩ : ∃ x, x = v.x := ⟨_, rfl⟩
  have HX := hide (show x = v.x ∧ 0 ≤ x ∧ x ≤ 65535 from ⟨hx, by rw [hx]; obtain ⟨⟨⟨_, _, _, _, h⟩, _⟩, _⟩ := PV.gd HQK.out; omega⟩)
  have hx0 : 0 ≤ x ∧ x ≤ 65535 := HX.out.2
  rw [← hx] at X6
  clear hx
  have hf0 : Hid (fitS D a v m ↔ ((m : Int) = (n : Int) - 2 ∧ 0 ≤ a ∧ a ≤ (N : Int) - n ∧ x ≤ (N : Int) - 2) ∧ ¬ (x < a + n ∧ a < x + 2)) := hide (by unfold fitS; rw [HVN.out.1, HN.out.1, HX.out.1])
  have H22 := hide (show ¬ fitS D a v m → R = (22, D) from fun h => by rw [HR.out]; unfold wrS; rw [if_neg (by rw [HQK.out]; decide), if_pos (by rw [HL.out]; exact h)])
  have hw1 : IntKind.i64.wrap ((n : Int) - 2) = (n : Int) - 2 := IntWalk.i64_in _ (by omega)
  have hw2 : IntKind.i64.wrap ((N : Int) - (n : Int)) = (N : Int) - (n : Int) := IntWalk.i64_in _ (by omega)
  have hw3 : IntKind.i64.wrap ((N : Int) - 2) = (N : Int) - 2 := IntWalk.i64_in _ (by omega)
  have y4 := X6.out.cell 4
  simp only [List.getElem?_toArray, List.getElem?_cons_succ, List.getElem?_cons_zero] at y4
  by_cases e1 : (m : Int) = (n : Int) - 2
  rotate_left
  · have HP := hide (H22.out (fun h => e1 (hf0.out.1 h).1.1))
    have b1 : ((m : Int) != (n : Int) - 2) = true := bne_iff_ne.2 e1
    clear e1
    obtain ⟨c0, c1, c2, c3, -⟩ := cell4 K4.out
    obtain ⟨d0, d1, d2, d3, f0, f1, f2, f3⟩ := cell4 K8.out
    go_wp2_with fail
    exact ret_da rfl rfl rfl rfl (set4b K8.out _ _ _ _) (by rw [HP.out, HN.out.1]; exact ⟨As, cs, Aq, cq, rfl, (RN.out.set4 (.inr rfl) _ _ _ _).n⟩)
  have b1 : ((m : Int) != (n : Int) - 2) = false := by simp [e1]
  by_cases e2 : a < 0
  · have HP := hide (H22.out (fun h => absurd (hf0.out.1 h).1.2.1 (by omega)))
    clear e1
    obtain ⟨c0, c1, c2, c3, -⟩ := cell4 K4.out
    obtain ⟨d0, d1, d2, d3, f0, f1, f2, f3⟩ := cell4 K8.out
    go_wp2_with fail
    exact ret_da rfl rfl rfl rfl (set4b K8.out _ _ _ _) (by rw [HP.out, HN.out.1]; exact ⟨As, cs, Aq, cq, rfl, (RN.out.set4 (.inr rfl) _ _ _ _).n⟩)
  by_cases e3 : (N : Int) - n < a
  · have HP := hide (H22.out (fun h => absurd (hf0.out.1 h).1.2.2.1 (by omega)))
    clear e1
    obtain ⟨c0, c1, c2, c3, -⟩ := cell4 K4.out
    obtain ⟨d0, d1, d2, d3, f0, f1, f2, f3⟩ := cell4 K8.out
    go_wp2_with fail
    exact ret_da rfl rfl rfl rfl (set4b K8.out _ _ _ _) (by rw [HP.out, HN.out.1]; exact ⟨As, cs, Aq, cq, rfl, (RN.out.set4 (.inr rfl) _ _ _ _).n⟩)
  by_cases e4 : (N : Int) - 2 < x
  · have HP := hide (H22.out (fun h => absurd (hf0.out.1 h).1.2.2.2 (by omega)))
    clear e1
    obtain ⟨c0, c1, c2, c3, -⟩ := cell4 K4.out
    obtain ⟨d0, d1, d2, d3, f0, f1, f2, f3⟩ := cell4 K8.out
    go_wp2_with fail
    exact ret_da rfl rfl rfl rfl (set4b K8.out _ _ _ _) (by rw [HP.out, HN.out.1]; exact ⟨As, cs, Aq, cq, rfl, (RN.out.set4 (.inr rfl) _ _ _ _).n⟩)
  have HE := hide (show (m : Int) = (n : Int) - 2 ∧ 0 ≤ a ∧ a ≤ (N : Int) - n ∧ x ≤ (N : Int) - 2 by omega)
  obtain ⟨k, rfl⟩ : ∃ k : Nat, a = (k : Int) := ⟨a.toNat, by omega⟩
  obtain ⟨xx, rfl⟩ : ∃ k : Nat, x = (k : Int) := ⟨x.toNat, by omega⟩
  have hkN : k + n ≤ N := by omega
  have hxN : xx + 2 ≤ N := by omega
  obtain ⟨c0, c1, c2, c3, -⟩ := cell4 K4.out
  obtain ⟨kn, hkn⟩ : ∃ x, x = k + n := ⟨_, rfl⟩
  have HKN := hide hkn
  have hw4 : IntKind.i64.wrap ((k : Int) + (n : Int)) = (kn : Int) := by rw [IntKind.wrap_i64]; omega
  obtain ⟨x1, hx1⟩ : ∃ x, x = xx + 1 := ⟨_, rfl⟩
  have HX1 := hide hx1
  have hw5 : IntKind.i64.wrap ((xx : Int) + 1) = (x1 : Int) := by rw [IntKind.wrap_i64]; omega
  clear hkn hx1
  go_upto_region 8 with fail
  clear hw1 hw2 hw3 b1 e1 e2 e3 e4 c0 c1 c2 c3
  obtain ⟨wl, hwl⟩ : ∃ W, W = w3 := ⟨_, rfl⟩
  rw [← hwl]
  rw [← hwl] at K4 X6 K8 RN y4
  clear hwl
  go_loopw [12] (fun y wr => ∃ i : Nat, k ≤ i ∧ i ≤ kn ∧ y = .int .i64 (i : Int) ∧ wr = wl ∧ ∀ j : Nat, k ≤ j → j < i → j ≠ xx ∧ j ≠ x1) (fun y _ => kn - (intOf y).toNat)
  case atStart => exact ⟨k, Nat.le_refl _, by have := HKN.out; omega, rfl, rfl, fun j h1 h2 => by omega⟩
  case round =>
    obtain ⟨i, hki, hikn, rfl, rfl, hj⟩ := hrel
    have HJ := hide hj
    clear hj
    by_cases hlt : i < kn
    · have his : (i : Int) < (kn : Int) := by omega
      rcases (show i = xx ∨ (i ≠ xx ∧ i = x1) ∨ (i ≠ xx ∧ i ≠ x1) by omega) with e | ⟨e, e'⟩ | ⟨e, e'⟩
      · have HP := hide (H22.out (fun h => (hf0.out.1 h).2 (by have := HKN.out; omega)))
        subst e
        obtain ⟨c0, c1, c2, c3, -⟩ := cell4 K4.out
        obtain ⟨d0, d1, d2, d3, f0, f1, f2, f3⟩ := cell4 K8.out
        go_wp2_with fail
        exact ret_da rfl rfl rfl rfl (set4b K8.out _ _ _ _) (by rw [HP.out, HN.out.1]; exact ⟨As, cs, Aq, cq, rfl, (RN.out.set4 (.inr rfl) _ _ _ _).n⟩)
      · have HP := hide (H22.out (fun h => (hf0.out.1 h).2 (by have := HKN.out; have := HX1.out; omega)))
        have b1 : ((i : Int) == (xx : Int)) = false := by rw [beq_eq_false_iff_ne]; omega
        subst e'
        obtain ⟨c0, c1, c2, c3, -⟩ := cell4 K4.out
        obtain ⟨d0, d1, d2, d3, f0, f1, f2, f3⟩ := cell4 K8.out
        go_wp2_with fail
        exact ret_da rfl rfl rfl rfl (set4b K8.out _ _ _ _) (by rw [HP.out, HN.out.1]; exact ⟨As, cs, Aq, cq, rfl, (RN.out.set4 (.inr rfl) _ _ _ _).n⟩)
      · have b1 : ((i : Int) == (xx : Int)) = false := by rw [beq_eq_false_iff_ne]; omega
        have b2 : ((i : Int) == (x1 : Int)) = false := by rw [beq_eq_false_iff_ne]; omega
        obtain ⟨i1, hi1⟩ : ∃ t, t = i + 1 := ⟨_, rfl⟩
        have HI1 := hide hi1
        have hiw : IntKind.i64.wrap ((i : Int) + 1) = (i1 : Int) := by have := HKN.out; rw [IntKind.wrap_i64]; omega
        clear hi1
        go_wp2_with fail
        go_roundw
        case rel =>
          obtain rfl : i1 = i + 1 := HI1.out
          refine ⟨i + 1, by omega, by omega, rfl, trivial, fun j h1 h2 => ?_⟩
          by_cases hji : j = i
          · rw [hji]; exact ⟨e, e'⟩
          · exact HJ.out j h1 (by omega)
        case measure => have := HI1.out; simp [intOf]; omega
    · have his : ¬ (i : Int) < (kn : Int) := by omega
      have HFI := hide (show fitS D (k : Int) v m from hf0.out.2 ⟨HE.out, fun ⟨h1, h2⟩ => by
        have h3 := HKN.out
        have h4 := HX1.out
        by_cases hge : k ≤ xx
        · exact (HJ.out xx hge (by omega)).1 rfl
        · exact (HJ.out x1 (by omega) (by have := HVN.out; omega)).2 rfl⟩)
      go_upto_region 12 with fail
      clear HJ hw4 hw5 y4
      obtain ⟨wm, hwm⟩ : ∃ W, W = wr := ⟨_, rfl⟩
      rw [← hwm]
      rw [← hwm] at K4 X6 K8 RN
      clear hwm
      go_wp2_with fail
      go_loopw [74] (fun y wz => ∃ j : Nat, j ≤ m ∧ y = .int .i64 (j : Int) ∧ wz = wm ∧ ∀ b ∈ bs.take j, b.length = 64) (fun y _ => m - (intOf y).toNat)
      case atStart => exact ⟨0, Nat.zero_le _, rfl, rfl, by simp⟩
      case round =>
        obtain ⟨j, hj, rfl, rfl, hj64⟩ := hrel
        have HJ := hide hj64
        clear hj64
        by_cases hlt : j < m
        · have hjs : (j : Int) < (m : Int) := by omega
          obtain ⟨ad, b, rfl, hxb, hcb⟩ := sl_str (HA.out.below RN.out.n.bel) hlt
          have HXB := hide hxb
          obtain ⟨q, hq⟩ : ∃ q, q = b.length := ⟨_, rfl⟩
          have HQ := hide (show q = b.length ∧ q ≤ 100000 from ⟨hq, by rw [hq]; exact HBL.out b (List.mem_of_getElem? hxb)⟩)
          have hqs : (txt b).size = q := by rw [txt_len, hq]
          clear hxb hq
          by_cases h64 : q = 64
          · subst h64
            go_wp2_with fail
            go_roundw
            case rel =>
              refine ⟨j + 1, by omega, by go_num, trivial, fun b' hb => ?_⟩
              rw [List.take_add_one, HXB.out] at hb
              rcases List.mem_append.1 hb with hb | hb
              · exact HJ.out b' hb
              · simp only [Option.toList, List.mem_singleton] at hb
                rw [hb, ← HQ.out.1]
            case measure => simp [intOf]; omega
          · have HP := hide (show R = (22, D) by
              rw [HR.out]; unfold wrS
              rw [if_neg (by rw [HQK.out]; decide), if_neg (by rw [HL.out]; exact fun h => h HFI.out), if_pos]
              exact List.any_eq_true.2 ⟨b, List.mem_of_getElem? HXB.out, by simp; rw [← HQ.out.1]; exact h64⟩)
            have hb64 : ((q : Int) != 64) = true := bne_iff_ne.2 (by omega)
            clear h64
            obtain ⟨c0, c1, c2, c3, -⟩ := cell4 K4.out
            obtain ⟨d0, d1, d2, d3, f0, f1, f2, f3⟩ := cell4 K8.out
            go_wp2_with fail
            exact ret_da rfl rfl rfl rfl (set4b K8.out _ _ _ _) (by rw [HP.out, HN.out.1]; exact ⟨As, cs, Aq, cq, rfl, (RN.out.set4 (.inr rfl) _ _ _ _).n⟩)
        · have hjs : ¬ (j : Int) < (m : Int) := by omega
          have H6 := hide (show ∀ b ∈ bs, b.length = 64 by
            have := HJ.out
            rw [List.take_of_length_le (by rw [HL.out]; omega)] at this
            exact this)
          have HP := hide (show R = andS (putS D (k + 2) bs) fun D => andS (clrS D v.x) fun D => andS (putS D k [(v.enc (crc bs.flatten)).take 64, (v.enc (crc bs.flatten)).drop 64]) barS by
            rw [HR.out]; unfold wrS
            rw [if_neg (by rw [HQK.out]; decide), if_neg (by rw [HL.out]; exact fun h => h HFI.out), if_neg (by
              rw [Bool.not_eq_true, List.any_eq_false]
              intro b hbm
              simp [H6.out b hbm]), Int.toNat_natCast])
          clear HJ
          have PC := rput15 base As cs Aq cq D (k + 2) A m c _ bs wr RN.out.n.rm (Nat.le_trans HBS.out RN.out.n.bel.size) (HA.out.below RN.out.n.bel) RN.out.n.bel.size H6.out (by have := HE.out; have := HN.out.1; omega) (by have := HSQ.out; have := HE.out; omega) (by have := HSQ.out; have := HE.out; omega)
          obtain ⟨P, hP⟩ : ∃ P, P = putS D (k + 2) bs := ⟨_, rfl⟩
          have PB := hide (show P.2.steps ≤ D.steps + 200 ∧ P.2.queue.length ≤ D.queue.length + 200 ∧ P.2.sure.length = D.sure.length by
            have := putS_bd bs D (k + 2)
            have := HL.out
            have := HE.out
            rw [hP]
            exact ⟨by omega, by omega, putS_len _ _ _⟩)
          rw [← hP] at PC HP
          unfold refV at PC
          rw [← HN.out.1] at PC
          have PC := hide PC
          clear hP
          obtain ⟨k2, hk2⟩ : ∃ x, x = k + 2 := ⟨_, rfl⟩
          rw [← hk2] at PC
          have hw2 : IntKind.i64.wrap ((k : Int) + 2) = (k2 : Int) := by rw [IntKind.wrap_i64]; omega
          clear hk2
          obtain ⟨c0, c1, c2, c3, f0, f1, f2, f3⟩ := cell4 K4.out
          go_wp2_with fail
          clear c0 c1 c2 c3 f0 f1 f2 f3 hw2
          refine PC.out.mono ?_
          rintro r w5 ⟨As2, cs2, Aq2, cq2, rfl, kk⟩
          have RN2 := hide (RN.out.call kk)
          replace K4 := hide (K4.out.below kk.bel)
          replace X6 := hide (X6.out.below kk.bel)
          replace K8 := hide (K8.out.below kk.bel)
          clear PC kk RN
          obtain ⟨pc, E⟩ := P
          dsimp only at PB RN2
          unfold refV
          obtain ⟨c0, c1, c2, c3, f0, f1, f2, f3⟩ := cell4 K4.out
          go_upto_region 19 with fail
          obtain ⟨W, eW, S1, S2, S3, S4⟩ := set4x K4.out (.slice As2 E.sure.length cs2) (.slice Aq2 E.queue.length cq2) (.int .i64 (E.steps : Int)) (.int .i64 E.left)
          have RN := hide (S3 _ _ _ _ _ _ _ _ _ _ _ (.inl rfl) RN2.out)
          replace X6 := hide (S2 _ _ _ X6.out G.out.1.symm)
          replace K8 := hide (S2 _ _ _ K8.out G.out.2.1.symm)
          replace K4 := hide S1
          rw [eW]
          clear c0 c1 c2 c3 f0 f1 f2 f3 eW S1 S2 S3 S4 RN2
          by_cases hpc : pc = 0
          rotate_left
          · have hpn : (pc != 0) = true := bne_iff_ne.2 hpc
            have hpe : (pc == 0) = false := by rw [beq_eq_false_iff_ne]; exact hpc
            replace HP := hide (show R = (pc, E) by rw [HP.out]; unfold andS; rw [if_neg hpc])
            obtain ⟨c0, c1, c2, c3, -⟩ := cell4 K4.out
            obtain ⟨d0, d1, d2, d3, f0, f1, f2, f3⟩ := cell4 K8.out
            clear hpc
            go_wp2_with fail
            exact ret_da rfl rfl rfl rfl (set4b K8.out _ _ _ _) (by rw [HP.out]; exact ⟨As2, cs2, Aq2, cq2, rfl, (RN.out.set4 (.inr rfl) _ _ _ _).n⟩)
          subst hpc
          replace HP := hide (show R = andS (clrS E v.x) fun D => andS (putS D k [(v.enc (crc bs.flatten)).take 64, (v.enc (crc bs.flatten)).drop 64]) barS from HP.out)
          have CC := rclr15 base As2 cs2 Aq2 cq2 E (xx : Int) W RN.out.n.rm (Nat.le_trans HBS.out RN.out.n.bel.size) (by have := HSQ.out; have := PB.out; omega) (by have := HSQ.out; have := PB.out; omega)
          rw [← HX.out.1] at HP
          obtain ⟨P, hP⟩ : ∃ P, P = clrS E (xx : Int) := ⟨_, rfl⟩
          have PB2 := hide (show P.2.steps ≤ D.steps + 210 ∧ P.2.queue.length ≤ D.queue.length + 210 ∧ P.2.sure.length = D.sure.length by
            have := clrS_bd E (xx : Int)
            have := clrS_len E (xx : Int)
            have := PB.out
            rw [hP]
            omega)
          rw [← hP] at CC HP
          unfold refV at CC
          have CC := hide CC
          clear hP
          obtain ⟨c0, c1, c2, c3, f0, f1, f2, f3⟩ := cell4 K4.out
          have y4 := X6.out.cell 4
          simp only [List.getElem?_toArray, List.getElem?_cons_succ, List.getElem?_cons_zero] at y4
          go_wp2_with fail
          clear c0 c1 c2 c3 f0 f1 f2 f3 y4
          refine CC.out.mono ?_
          rintro r w6 ⟨As3, cs3, Aq3, cq3, rfl, kk⟩
          have RN2 := hide (RN.out.call kk)
          replace K4 := hide (K4.out.below kk.bel)
          replace X6 := hide (X6.out.below kk.bel)
          replace K8 := hide (K8.out.below kk.bel)
          clear CC kk RN PB
          obtain ⟨pc, E⟩ := P
          dsimp only at PB2 RN2
          unfold refV
          obtain ⟨c0, c1, c2, c3, f0, f1, f2, f3⟩ := cell4 K4.out
          go_upto_region 21 with fail
          obtain ⟨W2, eW, S1, S2, S3, S4⟩ := set4x K4.out (.slice As3 E.sure.length cs3) (.slice Aq3 E.queue.length cq3) (.int .i64 (E.steps : Int)) (.int .i64 E.left)
          have RN := hide (S3 _ _ _ _ _ _ _ _ _ _ _ (.inl rfl) RN2.out)
          replace X6 := hide (S2 _ _ _ X6.out G.out.1.symm)
          replace K8 := hide (S2 _ _ _ K8.out G.out.2.1.symm)
          replace K4 := hide S1
          rw [eW]
          clear c0 c1 c2 c3 f0 f1 f2 f3 eW S1 S2 S3 S4 RN2
          by_cases hpc : pc = 0
          rotate_left
          · have hpn : (pc != 0) = true := bne_iff_ne.2 hpc
            replace HP := hide (show R = (pc, E) by rw [HP.out]; unfold andS; rw [if_neg hpc])
            obtain ⟨c0, c1, c2, c3, -⟩ := cell4 K4.out
            obtain ⟨d0, d1, d2, d3, f0, f1, f2, f3⟩ := cell4 K8.out
            clear hpc
            go_wp2_with fail
            exact ret_da rfl rfl rfl rfl (set4b K8.out _ _ _ _) (by rw [HP.out]; exact ⟨As3, cs3, Aq3, cq3, rfl, (RN.out.set4 (.inr rfl) _ _ _ _).n⟩)
          subst hpc
          replace HP := hide (show R = andS (putS E k [(v.enc (crc bs.flatten)).take 64, (v.enc (crc bs.flatten)).drop 64]) barS from HP.out)
          obtain ⟨sm, hsm⟩ : ∃ sm, sm = crc bs.flatten := ⟨_, rfl⟩
          have HSM := hide (show sm < 4294967296 by rw [hsm]; exact crc_lt _)
          have HSE := hide hsm
          rw [← hsm] at HP
          clear hsm
          have hy := op7 X6.out
          go_upto_region 23 with fail
          refine wp_region_noPanic ?_
          refine wp_region_held_drew (S := (fun w' => w'.cell? ⟨g6, 0, none⟩ = some (.int .i64 v.e) ∧ w'.cell? ⟨g6, 1, none⟩ = some (.int .i64 v.c) ∧ w'.cell? ⟨g6, 2, none⟩ = some (.int .i64 v.i) ∧ w'.cell? ⟨g6, 3, none⟩ = some (.int .i64 v.p) ∧ w'.cell? ⟨g6, 4, none⟩ = some (.int .i64 (xx : Int)) ∧ w'.cell? ⟨g6, 5, none⟩ = some (.slice A1 n1 c1) ∧ w'.cell? ⟨g6, 6, none⟩ = some (.slice A2 n2 c2))) (by kernel_rfl) ?_ (fun hHeld => ?_)
          · ((try dsimp only) <;> (first | trivial | assumption | go_keep))
          clear hy
          replace RN := hide (RN.out.below (Below.refl _ _).drew)
          replace K4 := hide K4.out.drew
          replace K8 := hide K8.out.drew
          replace X6 := hide X6.out.drew
          generalize W2.drew = w7 at *
          refine wpAnyH_take (i := 0) (v := ?_) (by simp only [List.getElem?_toArray, List.getElem?_cons_succ, List.getElem?_cons_zero]; rfl) (by kernel_rfl) (by kernel_rfl) (by kernel_rfl) (fun _ _ _ h => h) (Or.inl ⟨by rfl, ?_⟩) (by assumption) ?_
          rotate_left 1
          · (intro w hSw; (try dsimp only at hSw); go_simp; try with_reducible rfl)
          try simp only [Act.put, List.setIfInBounds_toArray, List.set_cons_zero, List.set_cons_succ]
          refine wpAnyH_take (i := 1) (v := ?_) (by simp only [List.getElem?_toArray, List.getElem?_cons_succ, List.getElem?_cons_zero]; rfl) (by kernel_rfl) (by kernel_rfl) (by kernel_rfl) (fun _ _ _ h => h) (Or.inl ⟨by rfl, ?_⟩) (by assumption) ?_
          rotate_left 1
          · (intro w hSw; (try dsimp only at hSw); go_simp; try with_reducible rfl)
          try simp only [Act.put, List.setIfInBounds_toArray, List.set_cons_zero, List.set_cons_succ]
          have SC := hide (rsum15 w7 A m c _ bs (HA.out.below RN.out.n.bel) RN.out.n.bel.size (fun b hb => by rw [H6.out b hb]; decide) hm)
          rw [← HSE.out] at SC
          refine wpAnyH_ready (rs := [2]) (by kernel_rfl) (by simp) ?_
          refine AllReadyH.cons (by simp only [List.getElem?_toArray, List.getElem?_cons_succ, List.getElem?_cons_zero]; rfl) (fun K hK => ?_) ?_
          rotate_left 1
          · exact AllReadyH.nil
          go_simp
          refine SC.out.mono ?_; rintro r w8 ⟨rfl, hb⟩; replace RN := hide (RN.out.below hb); replace K4 := hide (K4.out.below hb); replace K8 := hide (K8.out.below hb); replace X6 := hide (X6.out.below hb); have hy := op7 X6.out; clear hb
          refine hK.out _ _ ?_ (fun hHeld2 => ?_)
          · ((try dsimp only) <;> (first | trivial | assumption | go_keep))
          clear hHeld
          have hHeld := hHeld2
          clear hHeld2 hK K
          try simp only [Act.put, List.setIfInBounds_toArray, List.set_cons_zero, List.set_cons_succ]
          clear hHeld SC
          have hHeld := hy
          clear hy
          have EC := hide (renc_any v.e v.c v.i v.p v.x sm HSM.out A1 A2 n1 c1 n2 c2 _ _ _ _ v.fs v.is w8 (HF.out.below RN.out.n.bel) (RwAt.below HI.out RN.out.n.bel) HQK.out)
          unfold partC at EC
          rw [← HX.out.1] at EC
          refine wpAnyH_ready (rs := [3]) (by kernel_rfl) (by simp) ?_
          refine AllReadyH.cons (by simp only [List.getElem?_toArray, List.getElem?_cons_succ, List.getElem?_cons_zero]; rfl) (fun K hK => ?_) ?_
          rotate_left 1
          · exact AllReadyH.nil
          go_simp
          refine EC.out.mono ?_; rintro r w9 ⟨Ae, ke, rfl, ho, hb⟩; have OE := hide ho; replace RN := hide (RN.out.below hb); replace K4 := hide (K4.out.below hb); replace K8 := hide (K8.out.below hb); replace X6 := hide (X6.out.below hb); have hy := op7 X6.out; clear hb ho
          refine hK.out _ _ ?_ (fun hHeld2 => ?_)
          · ((try dsimp only) <;> (first | trivial | assumption | go_keep))
          clear hHeld
          have hHeld := hHeld2
          clear hHeld2 hK K
          try simp only [Act.put, List.setIfInBounds_toArray, List.set_cons_zero, List.set_cons_succ]
          clear hHeld EC
          have hHeld := hy
          clear hy
          obtain ⟨EV, hEV⟩ : ∃ EV, EV = v.enc sm := ⟨_, rfl⟩
          have HEL := hide (show EV.length = 128 by rw [hEV]; exact PV.enc_len HQK.out _)
          have hOE := OE.out
          rw [HX.out.1] at hOE
          have hcv := run_conv_txt (P := Tryd.prog) (l := EV) w9 Tryd.underlying26 Tryd.underlying5 Tryd.underlying9 ke (by rw [hEV]; exact Sl.of_own hOE)
          rw [← hEV] at HP
          clear hEV hOE OE
          refine wpAnyH_ready (rs := [4]) (by kernel_rfl) (by simp) ?_
          refine AllReadyH.cons (by simp only [List.getElem?_toArray, List.getElem?_cons_succ, List.getElem?_cons_zero]; rfl) (fun K hK => ?_) ?_
          rotate_left 1
          · exact AllReadyH.nil
          go_simp
          refine hK.out _ _ ?_ (fun hHeld2 => ?_)
          · ((try dsimp only) <;> (first | trivial | assumption | go_keep))
          clear hHeld
          have hHeld := hHeld2
          clear hHeld2 hK K
          try simp only [Act.put, List.setIfInBounds_toArray, List.set_cons_zero, List.set_cons_succ]
          clear hcv
          refine wpAnyH_take (i := 5) (v := ?_) (by simp only [List.getElem?_toArray, List.getElem?_cons_succ, List.getElem?_cons_zero]; rfl) (by kernel_rfl) (by kernel_rfl) (by kernel_rfl) (fun _ _ _ h => h) (Or.inl ⟨by rfl, ?_⟩) (by assumption) ?_
          rotate_left 1
          · (intro w hSw; (try dsimp only at hSw); go_simp; try with_reducible rfl)
          try simp only [Act.put, List.setIfInBounds_toArray, List.set_cons_zero, List.set_cons_succ]
          refine wpAnyH_done (by kernel_rfl) ?_ _
          refine NoPanic.normal ?_
          clear hHeld X6
          have t1 := fun W => run_txt_h EV HEL.out W
          have t2 := fun W => run_txt_l EV HEL.out W
          have HE1 := hide (show (EV.take 64).length = 64 ∧ (EV.drop 64).length = 64 by have := HEL.out; exact ⟨by rw [List.length_take]; omega, by rw [List.length_drop]; omega⟩)
          obtain ⟨P, hP⟩ : ∃ P, P = putS E k [EV.take 64, EV.drop 64] := ⟨_, rfl⟩
          have HPP := hide hP
          have PB3 := hide (show P.2.steps ≤ D.steps + 220 by
            have := (putS_bd [EV.take 64, EV.drop 64] E k).1
            rw [← hP] at this
            have := PB2.out
            simp only [List.length_cons, List.length_nil] at *
            omega)
          rw [← hP] at HP
          clear hP
          go_upto_region 24 with fail
          go_cut [14] (fun y wx => ∃ (As4 : Option Addr) (cs4 : Nat) (Aq4 : Option Addr) (cq4 : Nat), y = .int .i64 P.1 ∧ RS base w wx As Aq As4 cs4 Aq4 cq4 P.2 g4 g8 ∧ Blk wx g4 51 #[.slice As4 P.2.sure.length cs4, .slice Aq4 P.2.queue.length cq4, .int .i64 (P.2.steps : Int), .int .i64 P.2.left] ∧ Blk wx g8 51 #[.slice none 0 0, .slice none 0 0, .int .i64 0, .int .i64 0])
          case first =>
            refine wp_region_noPanic ?_
            refine wp_region_held_drew (S := (fun _ => True)) (by kernel_rfl) ?_ (fun hHeld => ?_)
            · ((try dsimp only) <;> (first | trivial | assumption | go_keep))
            replace RN := hide (RN.out.below (Below.refl _ _).drew)
            replace K4 := hide K4.out.drew
            replace K8 := hide K8.out.drew
            generalize w9.drew = wa at *
            refine wpAnyH_take (i := 1) (v := ?_) (by simp only [List.getElem?_toArray, List.getElem?_cons_succ, List.getElem?_cons_zero]; rfl) (by kernel_rfl) (by kernel_rfl) (by kernel_rfl) (fun _ _ _ h => h) (Or.inl ⟨by rfl, ?_⟩) (by assumption) ?_
            rotate_left 1
            · (intro w hSw; (try dsimp only at hSw); go_simp; try with_reducible rfl)
            try simp only [Act.put, List.setIfInBounds_toArray, List.set_cons_zero, List.set_cons_succ]
            refine wpAnyH_take (i := 2) (v := ?_) (by simp only [List.getElem?_toArray, List.getElem?_cons_succ, List.getElem?_cons_zero]; rfl) (by kernel_rfl) (by kernel_rfl) (by kernel_rfl) (fun _ _ _ h => h) (Or.inl ⟨by rfl, ?_⟩) (by assumption) ?_
            rotate_left 1
            · (intro w hSw; (try dsimp only at hSw); go_simp; try with_reducible rfl)
            try simp only [Act.put, List.setIfInBounds_toArray, List.set_cons_zero, List.set_cons_succ]
            refine wpAnyH_take (i := 3) (v := ?_) (by simp only [List.getElem?_toArray, List.getElem?_cons_succ, List.getElem?_cons_zero]; rfl) (by kernel_rfl) (by kernel_rfl) (by kernel_rfl) (fun _ _ _ h => h) (Or.inl ⟨by rfl, ?_⟩) (by assumption) ?_
            rotate_left 1
            · (intro w hSw; (try dsimp only at hSw); go_simp; try with_reducible rfl)
            try simp only [Act.put, List.setIfInBounds_toArray, List.set_cons_zero, List.set_cons_succ]
            refine wpAnyH_take (i := 4) (v := ?_) (by simp only [List.getElem?_toArray, List.getElem?_cons_succ, List.getElem?_cons_zero]; rfl) (by kernel_rfl) (by kernel_rfl) (by kernel_rfl) (fun _ _ _ h => h) (Or.inl ⟨by rfl, ?_⟩) (by assumption) ?_
            rotate_left 1
            · (intro w hSw; (try dsimp only at hSw); go_simp; try with_reducible rfl)
            try simp only [Act.put, List.setIfInBounds_toArray, List.set_cons_zero, List.set_cons_succ]
            refine wpAnyH_take (i := 5) (v := ?_) (by simp only [List.getElem?_toArray, List.getElem?_cons_succ, List.getElem?_cons_zero]; rfl) (by kernel_rfl) (by kernel_rfl) (by kernel_rfl) (fun _ _ _ h => h) (Or.inl ⟨by rfl, ?_⟩) (by assumption) ?_
            rotate_left 1
            · (intro w hSw; (try dsimp only at hSw); go_simp; try with_reducible rfl)
            try simp only [Act.put, List.setIfInBounds_toArray, List.set_cons_zero, List.set_cons_succ]
            have B9 := hide ((Below.refl wa.heap.size wa).alloc (Nat.le_refl _) (.cells #[.string (txt (EV.take 64)), .string (txt (EV.drop 64))] 9))
            have PC := hide (rput15 base As3 cs3 Aq3 cq3 E k (some ⟨wa.heap.size, 0, none⟩) 2 2 _ [EV.take 64, EV.drop 64] (wa.alloc (.cells #[.string (txt (EV.take 64)), .string (txt (EV.drop 64))] 9)) (RN.out.n.rm.below B9.out) (Nat.le_trans HBS.out (Nat.le_trans RN.out.n.bel.size B9.out.size)) (sl_two _ _ _) (by simp) (by
              intro b hb
              have := HE1.out
              simp only [List.mem_cons, List.not_mem_nil, or_false] at hb
              rcases hb with rfl | rfl
              · exact this.1
              · exact this.2) (by have := PB2.out.2.2; have := HN.out.1; have := HVN.out; omega) (by have := HSQ.out; have := PB2.out; omega) (by have := HSQ.out; have := PB2.out; omega))
            rw [← HPP.out] at PC
            unfold refV at PC
            refine wpAnyH_ready (rs := [0, 6]) (by kernel_rfl) (by simp) ?_
            refine AllReadyH.cons (by simp only [List.getElem?_toArray, List.getElem?_cons_succ, List.getElem?_cons_zero]; rfl) (fun K hK => ?_) ?_
            rotate_left 1
            refine AllReadyH.cons (by simp only [List.getElem?_toArray, List.getElem?_cons_succ, List.getElem?_cons_zero]; rfl) (fun K hK => ?_) ?_
            rotate_left 1
            exact AllReadyH.nil
            ·
              obtain ⟨c0, c1, c2, c3, -⟩ := cell4 K4.out
              go_simp
              refine hK.out _ _ ?_ (fun hHeld2 => ?_)
              · ((try dsimp only) <;> (first | trivial | assumption | go_keep))
              clear hHeld
              have hHeld := hHeld2
              clear hHeld2 hK K
              try simp only [Act.put, List.setIfInBounds_toArray, List.set_cons_zero, List.set_cons_succ]
              clear c0 c1 c2 c3
              refine wpAnyH_ready (rs := [6]) (by kernel_rfl) (by simp) ?_
              refine AllReadyH.cons (by simp only [List.getElem?_toArray, List.getElem?_cons_succ, List.getElem?_cons_zero]; rfl) (fun K hK => ?_) ?_
              rotate_left 1
              · exact AllReadyH.nil
              go_simp
              refine hK.out _ _ ?_ (fun hHeld2 => ?_)
              · ((try dsimp only) <;> (first | trivial | assumption | go_keep))
              clear hHeld
              have hHeld := hHeld2
              clear hHeld2 hK K
              try simp only [Act.put, List.setIfInBounds_toArray, List.set_cons_zero, List.set_cons_succ]
              refine wpAnyH_ready (rs := [7]) (by kernel_rfl) (by simp) ?_
              refine AllReadyH.cons (by simp only [List.getElem?_toArray, List.getElem?_cons_succ, List.getElem?_cons_zero]; rfl) (fun K hK => ?_) ?_
              rotate_left 1
              · exact AllReadyH.nil
              go_simp
              refine PC.out.mono ?_; rintro r w9 ⟨As4, cs4, Aq4, cq4, rfl, kk⟩; have RN3 := hide ((RN.out.below B9.out).call kk); replace K4 := hide ((K4.out.below B9.out).below kk.bel); replace K8 := hide ((K8.out.below B9.out).below kk.bel); clear PC kk RN; unfold refV
              refine hK.out _ _ ?_ (fun hHeld2 => ?_)
              · ((try dsimp only) <;> (first | trivial | assumption | go_keep))
              clear hHeld
              have hHeld := hHeld2
              clear hHeld2 hK K
              try simp only [Act.put, List.setIfInBounds_toArray, List.set_cons_zero, List.set_cons_succ]
              refine wpAnyH_take (i := 8) (v := ?_) (by simp only [List.getElem?_toArray, List.getElem?_cons_succ, List.getElem?_cons_zero]; rfl) (by kernel_rfl) (by kernel_rfl) (by kernel_rfl) (fun _ _ _ h => h) (Or.inl ⟨by rfl, ?_⟩) (by assumption) ?_
              rotate_left 1
              · (intro w hSw; (try dsimp only at hSw); go_simp; try with_reducible rfl)
              try simp only [Act.put, List.setIfInBounds_toArray, List.set_cons_zero, List.set_cons_succ]
              refine wpAnyH_take (i := 9) (v := ?_) (by simp only [List.getElem?_toArray, List.getElem?_cons_succ, List.getElem?_cons_zero]; rfl) (by kernel_rfl) (by kernel_rfl) (by kernel_rfl) (fun _ _ _ h => h) (Or.inl ⟨by rfl, ?_⟩) (by assumption) ?_
              rotate_left 1
              · (intro w hSw; (try dsimp only at hSw); go_simp; try with_reducible rfl)
              try simp only [Act.put, List.setIfInBounds_toArray, List.set_cons_zero, List.set_cons_succ]
              refine wpAnyH_take (i := 10) (v := ?_) (by simp only [List.getElem?_toArray, List.getElem?_cons_succ, List.getElem?_cons_zero]; rfl) (by kernel_rfl) (by kernel_rfl) (by kernel_rfl) (fun _ _ _ h => h) (Or.inl ⟨by rfl, ?_⟩) (by assumption) ?_
              rotate_left 1
              · (intro w hSw; (try dsimp only at hSw); go_simp; try with_reducible rfl)
              try simp only [Act.put, List.setIfInBounds_toArray, List.set_cons_zero, List.set_cons_succ]
              obtain ⟨c0, c1, c2, c3, f0, f1, f2, f3⟩ := cell4 K4.out
              refine wpAnyH_ready (rs := [11]) (by kernel_rfl) (by simp) ?_
              refine AllReadyH.cons (by simp only [List.getElem?_toArray, List.getElem?_cons_succ, List.getElem?_cons_zero]; rfl) (fun K hK => ?_) ?_
              rotate_left 1
              · exact AllReadyH.nil
              go_simp
              obtain ⟨W2, eW, S1, S2, S3, S4⟩ := set4x K4.out (.slice As4 P.2.sure.length cs4) (.slice Aq4 P.2.queue.length cq4) (.int .i64 (P.2.steps : Int)) (.int .i64 P.2.left); have RN4 := hide (S3 _ _ _ _ _ _ _ _ _ _ _ (.inl rfl) RN3.out); replace K8 := hide (S2 _ _ _ K8.out G.out.2.1.symm); replace K4 := hide S1; rw [eW]; clear eW S1 S2 S3 S4
              refine hK.out _ _ ?_ (fun hHeld2 => ?_)
              · ((try dsimp only) <;> (first | trivial | assumption | go_keep))
              clear hHeld
              have hHeld := hHeld2
              clear hHeld2 hK K
              try simp only [Act.put, List.setIfInBounds_toArray, List.set_cons_zero, List.set_cons_succ]
              clear c0 c1 c2 c3 f0 f1 f2 f3
              refine wpAnyH_take (i := 12) (v := ?_) (by simp only [List.getElem?_toArray, List.getElem?_cons_succ, List.getElem?_cons_zero]; rfl) (by kernel_rfl) (by kernel_rfl) (by kernel_rfl) (fun _ _ _ h => h) (Or.inl ⟨by rfl, ?_⟩) (by assumption) ?_
              rotate_left 1
              · (intro w hSw; (try dsimp only at hSw); go_simp; try with_reducible rfl)
              try simp only [Act.put, List.setIfInBounds_toArray, List.set_cons_zero, List.set_cons_succ]
              refine wpAnyH_done (by kernel_rfl) ?_ _
              refine NoPanic.normal ?_
              clear hHeld
              go_wp2_with fail
              go_meet
              exact ⟨As4, cs4, Aq4, cq4, rfl, RN4.out, K4.out, K8.out⟩
            ·
              go_simp
              refine hK.out _ _ ?_ (fun hHeld2 => ?_)
              · ((try dsimp only) <;> (first | trivial | assumption | go_keep))
              clear hHeld
              have hHeld := hHeld2
              clear hHeld2 hK K
              try simp only [Act.put, List.setIfInBounds_toArray, List.set_cons_zero, List.set_cons_succ]
              obtain ⟨c0, c1, c2, c3, -⟩ := cell4 (K4.out.below B9.out)
              refine wpAnyH_ready (rs := [0]) (by kernel_rfl) (by simp) ?_
              refine AllReadyH.cons (by simp only [List.getElem?_toArray, List.getElem?_cons_succ, List.getElem?_cons_zero]; rfl) (fun K hK => ?_) ?_
              rotate_left 1
              · exact AllReadyH.nil
              go_simp
              refine hK.out _ _ ?_ (fun hHeld2 => ?_)
              · ((try dsimp only) <;> (first | trivial | assumption | go_keep))
              clear hHeld
              have hHeld := hHeld2
              clear hHeld2 hK K
              try simp only [Act.put, List.setIfInBounds_toArray, List.set_cons_zero, List.set_cons_succ]
              clear c0 c1 c2 c3
              refine wpAnyH_ready (rs := [7]) (by kernel_rfl) (by simp) ?_
              refine AllReadyH.cons (by simp only [List.getElem?_toArray, List.getElem?_cons_succ, List.getElem?_cons_zero]; rfl) (fun K hK => ?_) ?_
              rotate_left 1
              · exact AllReadyH.nil
              go_simp
              refine PC.out.mono ?_; rintro r w9 ⟨As4, cs4, Aq4, cq4, rfl, kk⟩; have RN3 := hide ((RN.out.below B9.out).call kk); replace K4 := hide ((K4.out.below B9.out).below kk.bel); replace K8 := hide ((K8.out.below B9.out).below kk.bel); clear PC kk RN; unfold refV
              refine hK.out _ _ ?_ (fun hHeld2 => ?_)
              · ((try dsimp only) <;> (first | trivial | assumption | go_keep))
              clear hHeld
              have hHeld := hHeld2
              clear hHeld2 hK K
              try simp only [Act.put, List.setIfInBounds_toArray, List.set_cons_zero, List.set_cons_succ]
              refine wpAnyH_take (i := 8) (v := ?_) (by simp only [List.getElem?_toArray, List.getElem?_cons_succ, List.getElem?_cons_zero]; rfl) (by kernel_rfl) (by kernel_rfl) (by kernel_rfl) (fun _ _ _ h => h) (Or.inl ⟨by rfl, ?_⟩) (by assumption) ?_
              rotate_left 1
              · (intro w hSw; (try dsimp only at hSw); go_simp; try with_reducible rfl)
              try simp only [Act.put, List.setIfInBounds_toArray, List.set_cons_zero, List.set_cons_succ]
              refine wpAnyH_take (i := 9) (v := ?_) (by simp only [List.getElem?_toArray, List.getElem?_cons_succ, List.getElem?_cons_zero]; rfl) (by kernel_rfl) (by kernel_rfl) (by kernel_rfl) (fun _ _ _ h => h) (Or.inl ⟨by rfl, ?_⟩) (by assumption) ?_
              rotate_left 1
              · (intro w hSw; (try dsimp only at hSw); go_simp; try with_reducible rfl)
              try simp only [Act.put, List.setIfInBounds_toArray, List.set_cons_zero, List.set_cons_succ]
              refine wpAnyH_take (i := 10) (v := ?_) (by simp only [List.getElem?_toArray, List.getElem?_cons_succ, List.getElem?_cons_zero]; rfl) (by kernel_rfl) (by kernel_rfl) (by kernel_rfl) (fun _ _ _ h => h) (Or.inl ⟨by rfl, ?_⟩) (by assumption) ?_
              rotate_left 1
              · (intro w hSw; (try dsimp only at hSw); go_simp; try with_reducible rfl)
              try simp only [Act.put, List.setIfInBounds_toArray, List.set_cons_zero, List.set_cons_succ]
              obtain ⟨c0, c1, c2, c3, f0, f1, f2, f3⟩ := cell4 K4.out
              refine wpAnyH_ready (rs := [11]) (by kernel_rfl) (by simp) ?_
              refine AllReadyH.cons (by simp only [List.getElem?_toArray, List.getElem?_cons_succ, List.getElem?_cons_zero]; rfl) (fun K hK => ?_) ?_
              rotate_left 1
              · exact AllReadyH.nil
              go_simp
              obtain ⟨W2, eW, S1, S2, S3, S4⟩ := set4x K4.out (.slice As4 P.2.sure.length cs4) (.slice Aq4 P.2.queue.length cq4) (.int .i64 (P.2.steps : Int)) (.int .i64 P.2.left); have RN4 := hide (S3 _ _ _ _ _ _ _ _ _ _ _ (.inl rfl) RN3.out); replace K8 := hide (S2 _ _ _ K8.out G.out.2.1.symm); replace K4 := hide S1; rw [eW]; clear eW S1 S2 S3 S4
              refine hK.out _ _ ?_ (fun hHeld2 => ?_)
              · ((try dsimp only) <;> (first | trivial | assumption | go_keep))
              clear hHeld
              have hHeld := hHeld2
              clear hHeld2 hK K
              try simp only [Act.put, List.setIfInBounds_toArray, List.set_cons_zero, List.set_cons_succ]
              clear c0 c1 c2 c3 f0 f1 f2 f3
              refine wpAnyH_take (i := 12) (v := ?_) (by simp only [List.getElem?_toArray, List.getElem?_cons_succ, List.getElem?_cons_zero]; rfl) (by kernel_rfl) (by kernel_rfl) (by kernel_rfl) (fun _ _ _ h => h) (Or.inl ⟨by rfl, ?_⟩) (by assumption) ?_
              rotate_left 1
              · (intro w hSw; (try dsimp only at hSw); go_simp; try with_reducible rfl)
              try simp only [Act.put, List.setIfInBounds_toArray, List.set_cons_zero, List.set_cons_succ]
              refine wpAnyH_done (by kernel_rfl) ?_ _
              refine NoPanic.normal ?_
              clear hHeld
              go_wp2_with fail
              go_meet
              exact ⟨As4, cs4, Aq4, cq4, rfl, RN4.out, K4.out, K8.out⟩
          case rest =>
            obtain ⟨As4, cs4, Aq4, cq4, rfl, hrn, hk4, hk8⟩ := hcut
            clear RN K4 K8
            have RN := hide hrn
            have K4 := hide hk4
            have K8 := hide hk8
            clear hrn hk4 hk8 t1 t2
            obtain ⟨pc, E2⟩ := P
            dsimp only at PB3 RN K4 ⊢
            by_cases hpc : pc = 0
            rotate_left
            · have hpn : (pc != 0) = true := bne_iff_ne.2 hpc
              replace HP := hide (show R = (pc, E2) by rw [HP.out]; unfold andS; rw [if_neg hpc])
              obtain ⟨c0, c1, c2, c3, -⟩ := cell4 K4.out
              obtain ⟨d0, d1, d2, d3, f0, f1, f2, f3⟩ := cell4 K8.out
              clear hpc
              go_wp2_with fail
              exact ret_da rfl rfl rfl rfl (set4b K8.out _ _ _ _) (by rw [HP.out]; exact ⟨As4, cs4, Aq4, cq4, rfl, (RN.out.set4 (.inr rfl) _ _ _ _).n⟩)
            subst hpc
            replace HP := hide (show R = barS E2 from HP.out)
            have C3 := rbar_ans base As4 cs4 Aq4 cq4 E2 _ RN.out.n.rm (Nat.le_trans HBS.out RN.out.n.bel.size) (by have := HSQ.out; have := PB3.out; omega)
            rw [← HP.out] at C3
            unfold refV at C3
            have C3 := hide C3
            obtain ⟨c0, c1, c2, c3, -⟩ := cell4 K4.out
            go_wp2_with fail
            clear c0 c1 c2 c3
            refine C3.out.mono ?_
            rintro r w9 ⟨As5, cs5, Aq5, cq5, rfl, k3⟩
            have RN5 := hide (RN.out.call k3)
            replace K8 := hide (K8.out.below k3.bel)
            clear C3 k3 RN K4
            unfold refV
            obtain ⟨d0, d1, d2, d3, f0, f1, f2, f3⟩ := cell4 K8.out
            go_wp2_with fail
            exact ret_da rfl rfl rfl rfl (set4b K8.out _ _ _ _) ⟨As5, cs5, Aq5, cq5, rfl, (RN5.out.set4 (.inr rfl) _ _ _ _).n⟩
end Go.Proofs.YtlobkefacnedeaaDoor

/- The walk of marllaw15.few. -/
namespace Go.Proofs.YtlobkefacnedeaaDoor
open Go.RowKit
set_option maxRecDepth 100000
attribute [local go_sem ↓] Go.wp_at_zero Go.wp_at_succ

def FewAns (n1 n2 m : Nat) (fs : List FI) (r : Ending) : Prop := ∃ b : Bool, r = .returned (.bool b) ∧ (b = true → n1 ≤ 40 ∧ n2 ≤ 120 ∧ m ≤ 200 ∧ n2 + lsN fs ≤ 120)
set_option maxHeartbeats 2000000 in
theorem few15 (w : World) (a : Int) (v : PV) (A1 A2 A3 : Option Addr) (n1 c1 n2 c2 m c3 lo base : Nat) (h : FisAt lo base w A1 n1 v.fs) (hn1 : n1 ≤ 9223372036854775807) (hn2 : n2 ≤ 9223372036854775807) (hm : m ≤ 9223372036854775807) (hl : ∀ f ∈ v.fs, f.ls.length ≤ 9223372036854775807) :
    Calls Tryd.prog 10 #[.agg (rfC a v A1 n1 c1 A2 n2 c2 A3 m c3)] w fun r w' => FewAns n1 n2 m v.fs r ∧ Below w.heap.size w w' := by
  have H := hide h
  have HL := hide h.len
  have HLS := hide hl
  clear h hl
  have K1 := hide (Blk.new w 28 (rfC a v A1 n1 c1 A2 n2 c2 A3 m c3))
  have B1 := hide ((Below.refl w.heap.size w).alloc (Nat.le_refl _) (.cells (rfC a v A1 n1 c1 A2 n2 c2 A3 m c3) 28))
  unfold rfC at *
  have z6 := K1.out.cell 6
  have z7 := K1.out.cell 7
  have z8 := K1.out.cell 8
  simp only [List.getElem?_toArray, List.getElem?_cons_succ, List.getElem?_cons_zero] at z6 z7 z8
  obtain ⟨fs, hfs⟩ : ∃ l, l = v.fs := ⟨_, rfl⟩
  rw [← hfs] at H HL HLS ⊢
  go_enter Tryd.func10, Tryd.ntmps10
  go_upto_region 1 with fail
  generalize w.alloc (.cells #[.int .i64 a, .int .i64 v.e, .int .i64 v.c, .int .i64 v.i, .int .i64 v.p, .int .i64 v.x, .slice A1 n1 c1, .slice A2 n2 c2, .slice A3 m c3] 28) = w1 at *
  clear hfs
  by_cases h0 : 40 < (n1 : Int)
  · go_wp2_with fail
    go_ret
    exact ⟨⟨_, rfl, fun h => by cases h⟩, B1.out⟩
  by_cases h1 : 120 < (n2 : Int)
  · go_wp2_with fail
    go_ret
    exact ⟨⟨_, rfl, fun h => by cases h⟩, B1.out⟩
  by_cases h2 : 200 < (m : Int)
  · go_wp2_with fail
    go_ret
    exact ⟨⟨_, rfl, fun h => by cases h⟩, B1.out⟩
  have hn40 : n1 ≤ 40 := by omega
  have hn150 : n2 ≤ 120 := by omega
  have hm200 : m ≤ 200 := by omega
  go_upto_region 3 with fail
  clear h0 h1 h2
  go_wp2_with fail
  clear z6 z7 z8
  go_loopw [3, 31] (fun y z wr => ∃ j : Nat, j ≤ n1 ∧ z = .int .i64 (j : Int) ∧ y = .int .i64 ((n2 + lsN (fs.take j) : Nat) : Int) ∧ n2 + lsN (fs.take j) ≤ 120 ∧ Below w1.heap.size w1 wr) (fun _ z _ => n1 - (intOf z).toNat)
  case atStart => exact ⟨0, Nat.zero_le _, rfl, by simp [lsN, sumN], by simp [lsN, sumN]; omega, Below.refl _ _⟩
  case round =>
    obtain ⟨j, hj, rfl, rfl, hle, hb⟩ := hrel
    have Hb := hide (B1.out.trans (hb.mono B1.out.size))
    have z6 := (K1.out.below hb).cell 6
    simp only [List.getElem?_toArray, List.getElem?_cons_succ, List.getElem?_cons_zero] at z6
    have HB := hide hb
    clear hb
    by_cases hlt : j < n1
    · obtain ⟨b, off, f, A3, c3, hA, hF, hf, hi, q0, q1, q2⟩ := (H.out.below Hb.out).at hlt
      subst hA
      have HF := hide hf
      have hm5 := HLS.out f (List.mem_of_getElem? hf)
      obtain ⟨m, hm⟩ : ∃ m, m = f.ls.length := ⟨_, rfl⟩
      rw [← hm] at q2 hm5
      have e1 := lsN_take hf
      rw [← hm] at e1
      obtain ⟨M, hM⟩ : ∃ M, M = n2 + lsN (fs.take j) := ⟨_, rfl⟩
      have HM := hide hM
      have E1 := hide (show n2 + lsN (fs.take (j + 1)) = M + m by omega)
      rw [← hM] at hle ⊢
      clear hf hi hF hm e1 hM
      have hjs : (j : Int) < (n1 : Int) := by omega
      have hj64 : IntKind.i64.wrap (j : Int) = (j : Int) := by rw [IntKind.wrap_i64]; omega
      have hs64 : IntKind.i64.wrap (120 - (M : Int)) = 120 - (M : Int) := by rw [IntKind.wrap_i64]; omega
      by_cases hg : 120 - (M : Int) < (m : Int)
      · go_wp2_with fail
        go_ret
        exact ⟨⟨_, rfl, fun h => by cases h⟩, Hb.out⟩
      · have ha64 : IntKind.i64.wrap ((M : Int) + (m : Int)) = (M : Int) + (m : Int) := by rw [IntKind.wrap_i64]; omega
        go_wp2_with fail
        go_roundw
        case rel => exact ⟨j + 1, by omega, by go_num, by rw [E1.out]; congr 1, by rw [E1.out]; omega, HB.out⟩
        case measure => simp [intOf]; omega
    · have hjn : j = n1 := by omega
      subst hjn
      have e := List.take_of_length_le (Nat.le_of_eq HL.out)
      rw [e] at hle
      have HLE := hide hle
      clear hle
      go_wp2_with fail
      go_ret
      exact ⟨⟨_, rfl, fun _ => ⟨hn40, hn150, hm200, HLE.out⟩⟩, Hb.out⟩
end Go.Proofs.YtlobkefacnedeaaDoor
