import Derived.Test.YtbamdibpkkponaaDoorJb10
import Derived.Deep.DeepCutAuto
import Derived.Deep.QuietTactic
import Derived.BigQuiet
import Derived.Test.YtbamdibpkkponaaDoorJb01
set_option linter.unusedVariables false
set_option linter.unusedSimpArgs false
/- The walk of marlref06.Encode (printed by gen_smrenc.py). -/
namespace Go.Proofs.YtbamdibpkkponaaDoor
open Go.RowKit
attribute [local go_sem ↓] Go.wp_at_zero Go.wp_at_succ

theorem ckP_ok {e c i p x : Int} {fs : List FI} {is : List Int} (h : checkP e c i p x fs is = 0) : gdP e c i p x fs is ∧ szN fs is ≤ 88 := PV.gd (v := ⟨e, c, i, p, x, fs, is⟩) h
theorem own_bbR {w w' : World} {base n c : Nat} {A : Option Addr} {l : List UInt8} (h : OwnBy w base A n c l) (hb : Below w.heap.size w w') : OwnBy w' base A n c l := own_bel h hb
theorem run_elS {w : World} {A : Option Addr} {c k : Nat} (hk : k < 8) (hc : 88 ≤ c) : (Instr.slice 30 (.slice A 88 c) (some (.int .i64 (11 * (k : Int)))) (some (.int .i64 (11 * (k : Int) + 11))) none).run Tryd.prog w = .ok (.slice (cutA A c (11 * k)) 11 (c - 11 * k)) w := by
  have := run_cut_lh (P := Tryd.prog) etyB A 88 c w (11 * k) (11 * k + 11) .i64 .i64 (by omega) (by omega)
  rw [show 11 * k + 11 - 11 * k = 11 by omega] at this
  rw [show (11 * (k : Int)) = ((11 * k : Nat) : Int) by omega, show (((11 * k : Nat) : Int) + 11) = ((11 * k + 11 : Nat) : Int) by omega]
  exact this
theorem by_elS {w : World} {B c k : Nat} {A : Option Addr} {l : List UInt8} (h : By w B A 88 l) (hk : k < 8) (hc : 88 ≤ c) : By w B (cutA A c (11 * k)) 11 ((l.drop (11 * k)).take 11) := by
  have := Sl.cut h (i := 11 * k) (j := 11 * k + 11) (cap := c) (by omega) (by omega) (by omega)
  rw [show 11 * k + 11 - 11 * k = 11 by omega, u8s_drop, u8s_take] at this
  exact this
def slN : Value → Nat
  | .slice _ n _ => n
  | _ => 0
set_option maxRecDepth 100000 in
set_option maxHeartbeats 4000000 in
theorem renc_any (e c i p x : Int) (sum : Nat) (hsum : sum < 4294967296) (A1 A2 : Option Addr) (n1 c1 n2 c2 lo base lo2 base2 : Nat) (fs : List FI) (is : List Int) (w : World) (hf : FisAt lo base w A1 n1 fs) (hi : IntsAt lo2 base2 w A2 n2 is)
    (hck : checkP e c i p x fs is = 0) :
    Calls Tryd.prog 21 #[.agg (partC e c i p x A1 n1 c1 A2 n2 c2), .int .u32 (sum : Int)] w fun r w' => ∃ A k, r = .returned (.slice A 128 k) ∧ OwnBy w' w.heap.size A 128 k (encB e c (wordsB i p x fs is sum)) ∧ Below w.heap.size w w' := by
  have hsz := (ckP_ok hck).2
  have HG := hide (ckP_ok hck).1.2.1
  have HH := hide (ckP_ok hck).1.1
  have HL1 := hide hf.len
  have HL2 := hide (IntsAt.len hi)
  have hsz' : 10 + n2 + (4 * n1 + 2 * lsN fs) ≤ 88 := by have h1 := HL1.out; have h2 := HL2.out; unfold szN at hsz; rw [h1, h2] at hsz; exact hsz
  have HSZ := hide hsz'
  have HSZ2 := hide hsz
  have hn1 : n1 ≤ 19 := by omega
  have hn2 : n2 ≤ 78 := by omega
  have HF := hide hf
  have HI := hide hi
  clear hf hi hck hsz hsz'
  unfold partC at *
  have hs64 : IntKind.i64.wrap (sum : Int) = (sum : Int) := by rw [IntKind.wrap_i64]; omega
  go_enter Tryd.func21, Tryd.ntmps21
  go_upto_region 1 with fail
  have K1 := hide (Blk.new w 25 #[.int .i64 e, .int .i64 c, .int .i64 i, .int .i64 p, .int .i64 x, .slice A1 n1 c1, .slice A2 n2 c2])
  have B1 := hide ((Below.refl w.heap.size w).alloc (Nat.le_refl _) (.cells #[.int .i64 e, .int .i64 c, .int .i64 i, .int .i64 p, .int .i64 x, .slice A1 n1 c1, .slice A2 n2 c2] 25))
  obtain ⟨g2, hg2⟩ : ∃ g, g = w.heap.size := ⟨_, rfl⟩
  rw [← hg2] at K1 ⊢
  clear hg2
  generalize w.alloc (.cells #[.int .i64 e, .int .i64 c, .int .i64 i, .int .i64 p, .int .i64 x, .slice A1 n1 c1, .slice A2 n2 c2] 25) = w1 at *
  have CP := hide (fun (w' : World) (hb : Below w1.heap.size w1 w') => show w'.cell? ⟨g2, 0, none⟩ = some (.int .i64 e) ∧ w'.cell? ⟨g2, 1, none⟩ = some (.int .i64 c) ∧ w'.cell? ⟨g2, 2, none⟩ = some (.int .i64 i) ∧ w'.cell? ⟨g2, 3, none⟩ = some (.int .i64 p) ∧ w'.cell? ⟨g2, 4, none⟩ = some (.int .i64 x) ∧ w'.cell? ⟨g2, 5, none⟩ = some (.slice A1 n1 c1) ∧ w'.cell? ⟨g2, 6, none⟩ = some (.slice A2 n2 c2) from ⟨(K1.out.below hb).cell 0, (K1.out.below hb).cell 1, (K1.out.below hb).cell 2, (K1.out.below hb).cell 3, (K1.out.below hb).cell 4, (K1.out.below hb).cell 5, (K1.out.below hb).cell 6⟩)
  obtain ⟨q0, q1, q2, q3, q4, q5, q6⟩ := CP.out _ (Below.refl _ _)
  go_upto_region 2 with fail
  have O2 := hide (own_bytesS (w := w1) (base := w1.heap.size) (l := [b8 i, b8 p]) #[.int .u8 (i % 256), .int .u8 (p % 256)] (by rw [← b8_val, ← b8_val]; rfl) (Nat.le_refl _) (n := 2) rfl (by omega))
  have B2 := hide ((Below.refl w1.heap.size w1).alloc (Nat.le_refl _) (.cells #[.int .u8 (i % 256), .int .u8 (p % 256)] 5))
  generalize w1.alloc (.cells #[.int .u8 (i % 256), .int .u8 (p % 256)] 5) = w2 at *
  clear q0 q1 q2 q3 q4 q5 q6
  obtain ⟨q0, q1, q2, q3, q4, q5, q6⟩ := CP.out _ B2.out
  go_upto_region 3 with fail
  refine (rtwo_any x w2 HH.out.2.2.2.2.1 (by have := HH.out; unfold gdH at this; omega)).mono ?_
  rintro r w3 ⟨A3, k3, rfl, ho, hb⟩
  have P3 := hide ho
  have B3 := hide (B2.out.trans (hb.mono B2.out.size))
  have O3 := hide (own_bbR O2.out hb)
  clear ho hb
  go_upto_region 3 with (
    at_builtin
    refine wpList_appB (.tmp 19) (.tmp 22) O3.out (own_byS P3.out) B3.out rfl rfl rfl rfl (by omega) B3.out.size ?_
    intro A4 k4 w4 O4 B4)
  clear O3 B3 P3
  clear q0 q1 q2 q3 q4 q5 q6
  obtain ⟨q0, q1, q2, q3, q4, q5, q6⟩ := CP.out _ B4.out
  go_upto_region 4 with (
    at_builtin
    refine wpList_appB (.tmp 24) (.tmp 33) (own_al O4.out _) (by_lit2n w4 (n1 : Int) _ (n2 : Int) _ (by omega) (by omega)) (bel_al B4.out B4.out.size _) rfl rfl rfl rfl (by omega) (Nat.le_trans B4.out.size (by simp)) ?_
    intro A5 k5 w5 O5 B5)
  clear q0 q1 q2 q3 q4 q5 q6
  obtain ⟨q0, q1, q2, q3, q4, q5, q6⟩ := CP.out _ B5.out
  go_upto_region 5 with fail
  refine (rfourS sum w5 (by omega)).mono ?_
  rintro r w6 ⟨A6, k6, rfl, ho, hb⟩
  have P6 := hide ho
  have B6 := hide (B5.out.trans (hb.mono B5.out.size))
  have O6 := hide (own_bbR O5.out hb)
  clear ho hb
  go_upto_region 5 with (
    at_builtin
    refine wpList_appB (.tmp 35) (.tmp 38) O6.out (own_byS P6.out) B6.out rfl rfl rfl rfl (by omega) B6.out.size ?_
    intro A7 k7 w7 O7 B7)
  clear O6 B6 P6
  clear q0 q1 q2 q3 q4 q5 q6
  obtain ⟨q0, q1, q2, q3, q4, q5, q6⟩ := CP.out _ B7.out
  go_upto_region 6 with fail
  clear q0 q1 q2 q3 q4 q5 q6
  obtain ⟨HB, hHB⟩ : ∃ H, H = headB i p x n1 n2 sum := ⟨_, rfl⟩
  have HHB := hide hHB
  have O8 := hide (show OwnBy w7 w1.heap.size A7 10 k7 HB by
    have h1 := O7.out
    rw [le4_tw sum hsum] at h1
    rw [hHB]
    simpa [headB] using h1)
  clear hHB O2 B2 O4 B4 O5 B5 O7
  go_loopw [5, 43] (fun v y wr => ∃ (j m k : Nat) (A : Option Addr), j ≤ n1 ∧ y = .int .i64 (j : Int) ∧ m = 10 + (4 * j + 2 * lsN (fs.take j)) ∧ v = .slice A m k ∧ OwnBy wr w1.heap.size A m k (HB ++ (fs.take j).flatMap fileB) ∧ Below w1.heap.size w1 wr) (fun _ y _ => n1 - (intOf y).toNat)
  case atStart => exact ⟨0, 10, k7, A7, Nat.zero_le _, rfl, by simp [lsN, sumN], rfl, by simpa using O8.out, B7.out⟩
  case round =>
    clear O8 B7
    obtain ⟨j, m, k, A, hj, rfl, hm, rfl, ho, hb⟩ := hrel
    have HM := hide hm
    have O3 := hide ho
    have B3 := hide hb
    have BW := hide (B1.out.trans (hb.mono B1.out.size))
    clear hm ho hb
    by_cases hlt : j < n1
    · obtain ⟨b, off, f, A3, c3, hA, hFr, hfi, hI3, r0, r1, r2⟩ := HF.out.at hlt
      replace r0 := (BW.out.cell (p := ⟨b, off + j * 3, none⟩) hFr.2.1).trans r0
      replace r1 := (BW.out.cell (p := ⟨b, off + j * 3 + 1, none⟩) hFr.2.1).trans r1
      replace r2 := (BW.out.cell (p := ⟨b, off + j * 3 + 2, none⟩) hFr.2.1).trans r2
      have HGF := hide (HG.out f (List.mem_of_getElem? hfi))
      have HLT := hide (lsN_take hfi)
      have HLE := hide (lsN_le fs (j + 1))
      subst hA
      have HFI := hide hfi
      have HI3 := hide hI3
      obtain ⟨m5, hm5⟩ : ∃ n, n = f.ls.length := ⟨_, rfl⟩
      rw [← hm5] at r2 HI3 HLT
      have HM5 := hide hm5
      have hMB : m + 4 + 2 * m5 ≤ 88 := by have := HM.out; have := HLT.out; have := HLE.out; have := HSZ.out; omega
      have HMB := hide hMB
      clear hfi hI3 hFr hm5
      have hjs : (j : Int) < (n1 : Int) := by omega
      have hw64 : IntKind.i64.wrap (j : Int) = (j : Int) := by rw [IntKind.wrap_i64]; omega
      obtain ⟨q0, q1, q2, q3, q4, q5, q6⟩ := CP.out _ B3.out
      go_upto_region 9 with fail
      clear q0 q1 q2 q3 q4 q5 q6
      obtain ⟨w5, hw5⟩ : ∃ W, W = wr.alloc (.cells #[.int .i64 f.ino, .int .i64 f.ver, .slice A3 m5 c3] 46) := ⟨_, rfl⟩
      have X5 : Hid (Blk w5 wr.heap.size 46 #[.int .i64 f.ino, .int .i64 f.ver, .slice A3 m5 c3]) := hide (by rw [hw5]; exact Blk.new _ _ _)
      have B5 : Hid (Below wr.heap.size wr w5) := hide (by rw [hw5]; exact (Below.refl _ _).alloc (Nat.le_refl _) _)
      rw [← hw5]
      clear hw5 r0 r1 r2
      obtain ⟨g5, hg5⟩ : ∃ g, g = wr.heap.size := ⟨_, rfl⟩
      have G5 := hide (show w1.heap.size ≤ g5 ∧ (∀ g, (Value.slice A m k).ownBlock = some g → g ≠ g5) from ⟨by rw [hg5]; exact B3.out.size, fun g hg => by have := (O3.out.lt g hg).2; omega⟩)
      rw [← hg5] at X5 ⊢
      clear hg5
      have O5 := hide (own_bbR O3.out B5.out)
      have B25 := hide (B3.out.trans (B5.out.mono B3.out.size))
      clear B5
      have r0 := X5.out.cell 0
      have r1 := X5.out.cell 1
      have r2 := X5.out.cell 2
      simp only [List.getElem?_toArray, List.getElem?_cons_succ, List.getElem?_cons_zero] at r0 r1 r2
      go_upto_region 10 with (
        at_builtin
        refine wpList_appBX (.tmp 51) (.tmp 55) (own_al O5.out _) (by_lit1n w5 f.ino _ rfl) (bel_al B25.out B25.out.size _) (X5.out.alloc _) (by decide) rfl rfl rfl rfl (by omega) (Nat.le_trans B25.out.size (by simp)) ?_
        intro A6 k6 w6 O6 B6 X6)
      clear O5 B25 X5
      clear r0 r1 r2
      have r0 := X6.out.cell 0
      have r1 := X6.out.cell 1
      have r2 := X6.out.cell 2
      simp only [List.getElem?_toArray, List.getElem?_cons_succ, List.getElem?_cons_zero] at r0 r1 r2
      go_upto_region 11 with fail
      refine (rtwo_any f.ver w6 HGF.out.2.1.1 (by have := HGF.out.2.1; omega)).mono ?_
      rintro r w7 ⟨A7, k7, rfl, ho, hb⟩
      have P7 := hide ho
      have B7 := hide (B6.out.trans (hb.mono B6.out.size))
      have O7 := hide (own_bbR O6.out hb)
      have X7 := hide (X6.out.below hb)
      clear ho hb O6 B6 X6
      go_upto_region 11 with (
        at_builtin
        refine wpList_appBX (.tmp 57) (.tmp 60) O7.out (own_byS P7.out) B7.out X7.out (by decide) rfl rfl rfl rfl (by omega) B7.out.size ?_
        intro A8 k8 w8 O8 B8 X8)
      clear O7 B7 X7 P7
      clear r0 r1 r2
      have r0 := X8.out.cell 0
      have r1 := X8.out.cell 1
      have r2 := X8.out.cell 2
      simp only [List.getElem?_toArray, List.getElem?_cons_succ, List.getElem?_cons_zero] at r0 r1 r2
      go_upto_region 12 with (
        at_builtin
        refine wpList_appBX (.tmp 62) (.tmp 67) (own_al O8.out _) (by_lit1n w8 (m5 : Int) _ (by omega)) (bel_al B8.out B8.out.size _) (X8.out.alloc _) (by decide) rfl rfl rfl rfl (by omega) (Nat.le_trans B8.out.size (by simp)) ?_
        intro A9 k9 w9 O9 B9 X9)
      clear O8 B8 X8
      clear r0 r1 r2
      have r0 := X9.out.cell 0
      have r1 := X9.out.cell 1
      have r2 := X9.out.cell 2
      simp only [List.getElem?_toArray, List.getElem?_cons_succ, List.getElem?_cons_zero] at r0 r1 r2
      go_upto_region 13 with fail
      clear r0 r1 r2
      obtain ⟨L0, hL0⟩ : ∃ l, l = (HB ++ (fs.take j).flatMap fileB) ++ [b8 f.ino] ++ tw f.ver ++ [b8 (m5 : Int)] := ⟨_, rfl⟩
      have HL0 := hide hL0
      have O10 := hide (show OwnBy w9 w1.heap.size A9 (m + 4) k9 L0 by rw [hL0]; exact O9.out)
      clear hL0 O9
      have hm58 : m5 ≤ 88 := by omega
      go_loopw [5, 72] (fun v y wr => ∃ (q kq : Nat) (Aq : Option Addr), q ≤ m5 ∧ y = .int .i64 (q : Int) ∧ v = .slice Aq (m + 4 + 2 * q) kq ∧ OwnBy wr w1.heap.size Aq (m + 4 + 2 * q) kq (L0 ++ (f.ls.take q).flatMap (fun l => tw (l + 1000))) ∧ Below w1.heap.size w1 wr ∧ Blk wr g5 46 #[.int .i64 f.ino, .int .i64 f.ver, .slice A3 m5 c3]) (fun _ y _ => m5 - (intOf y).toNat)
      case atStart => exact ⟨0, k9, A9, Nat.zero_le _, rfl, rfl, by simpa using O10.out, B9.out, X9.out⟩
      case round =>
        clear O10 B9 X9
        obtain ⟨q, kq, Aq, hq, rfl, rfl, ho, hb, hx⟩ := hrel
        have O7 := hide ho
        have B7 := hide hb
        have X7 := hide hx
        have BQ := hide (B1.out.trans (hb.mono B1.out.size))
        clear ho hb hx
        have r2 := X7.out.cell 2
        simp only [List.getElem?_toArray, List.getElem?_cons_succ, List.getElem?_cons_zero] at r2
        by_cases hlq : q < m5
        · obtain ⟨zn, hzn⟩ : ∃ x, f.ls[q]? = some x := ⟨_, List.getElem?_eq_getElem (by rw [← HM5.out]; exact hlq)⟩
          obtain ⟨b3, off3, hA3, -, hc⟩ := RwAt.at (RwAt.below HI3.out BQ.out) (by omega) (by decide)
          have zc := hc q (.int .i64 zn) (by rw [intC, List.getElem?_map, hzn]; rfl)
          subst hA3
          have HZN := hide hzn
          have hzb := gdF_ls HGF.out zn (List.mem_of_getElem? hzn)
          have HZB := hide hzb
          have hx : IntKind.i64.wrap (zn + 1000) = zn + 1000 := by rw [IntKind.wrap_i64]; omega
          have hqs : (q : Int) < (m5 : Int) := by omega
          have hq64 : IntKind.i64.wrap (q : Int) = (q : Int) := by rw [IntKind.wrap_i64]; omega
          clear hzn hc hzb
          go_wp2_with fail
          refine (rtwo_any (zn + 1000) wr (by have := HZB.out; omega) (by have := HZB.out; omega)).mono ?_
          rintro r w8 ⟨A8, k8, rfl, ho, hb⟩
          have P8 := hide ho
          have B8 := hide (B7.out.trans (hb.mono B7.out.size))
          have O9 := hide (own_bbR O7.out hb)
          have X8 := hide (X7.out.below hb)
          clear ho hb O7 X7 zc r2
          go_wp2_with (
            at_builtin
            refine wpList_appBX (.tmp 75) (.tmp 82) O9.out (own_byS P8.out) B8.out X8.out (by decide) rfl rfl rfl rfl (by omega) B8.out.size ?_
            intro A9 k9 w9 O10 B10 X10)
          go_roundw
          case rel =>
            refine ⟨q + 1, k9, A9, by omega, by go_num, by rw [show m + 4 + 2 * (q + 1) = m + 4 + 2 * q + 2 from by omega], ?_, B10.out, X10.out⟩
            have h1 := O10.out
            rw [List.take_add_one, HZN.out, List.flatMap_append, ← List.append_assoc, show m + 4 + 2 * (q + 1) = m + 4 + 2 * q + 2 from by omega]
            simpa using h1
          case measure => simp [intOf]; omega
        · have hqm : q = m5 := by omega
          have HQM := hide hqm
          clear hqm
          go_wp2_with fail
          go_roundw
          case rel =>
            refine ⟨j + 1, m + 4 + 2 * q, kq, Aq, by omega, by go_num, ?_, rfl, ?_, B7.out⟩
            · have h1 := HM.out
              have h2 := HLT.out
              have h3 := HQM.out
              omega
            · have h1 := O7.out
              rw [HQM.out, List.take_of_length_le (by rw [← HM5.out]; exact Nat.le_refl _), HL0.out] at h1
              rw [HQM.out, List.take_add_one, HFI.out, List.flatMap_append]
              have e1 : HB ++ (List.flatMap fileB (List.take j fs) ++ List.flatMap fileB (some f).toList) = HB ++ List.flatMap fileB (List.take j fs) ++ [b8 f.ino] ++ tw f.ver ++ [b8 (m5 : Int)] ++ List.flatMap (fun l => tw (l + 1000)) f.ls := by
                simp [fileB, HM5.out]
              rw [e1]
              exact h1
          case measure => simp [intOf]; omega
    · have hjn : j = n1 := by omega
      have hall : fs.take j = fs := List.take_of_length_le (by rw [HL1.out]; omega)
      have O4 := hide (show OwnBy wr w1.heap.size A m k (HB ++ fs.flatMap fileB) by have := O3.out; rwa [hall] at this)
      have HM4 := hide (show m = 10 + (4 * n1 + 2 * lsN fs) by have := HM.out; rwa [hall, hjn] at this)
      obtain ⟨q0, q1, q2, q3, q4, q5, q6⟩ := CP.out _ B3.out
      have hm88 : m + n2 ≤ 88 := by have := HM4.out; have := HSZ.out; omega
      clear hall O3 HM hjn
      go_wp2_with fail
      clear q0 q1 q2 q3 q4 q5 q6
      go_loopw [5, 89] (fun v y wr => ∃ (q kq : Nat) (Aq : Option Addr), q ≤ n2 ∧ y = .int .i64 (q : Int) ∧ v = .slice Aq (m + q) kq ∧ OwnBy wr w1.heap.size Aq (m + q) kq (HB ++ fs.flatMap fileB ++ (is.take q).map b8) ∧ Below w1.heap.size w1 wr) (fun _ y _ => n2 - (intOf y).toNat)
      case atStart => exact ⟨0, k, A, Nat.zero_le _, rfl, rfl, by simpa using O4.out, B3.out⟩
      case round =>
        clear O4 B3 BW
        obtain ⟨q, kq, Aq, hq, rfl, rfl, ho, hb⟩ := hrel
        have O7 := hide ho
        have B7 := hide hb
        have BQ := hide (B1.out.trans (hb.mono B1.out.size))
        clear ho hb
        obtain ⟨q0, q1, q2, q3, q4, q5, q6⟩ := CP.out _ B7.out
        by_cases hlq : q < n2
        · obtain ⟨zn, hzn⟩ : ∃ x, is[q]? = some x := ⟨_, List.getElem?_eq_getElem (by rw [HL2.out]; exact hlq)⟩
          obtain ⟨b3, off3, hA3, -, hc⟩ := RwAt.at (RwAt.below HI.out BQ.out) (by omega) (by decide)
          have zc := hc q (.int .i64 zn) (by rw [intC, List.getElem?_map, hzn]; rfl)
          subst hA3
          have HZN := hide hzn
          have hqs : (q : Int) < (n2 : Int) := by omega
          have hq64 : IntKind.i64.wrap (q : Int) = (q : Int) := by rw [IntKind.wrap_i64]; omega
          clear hzn hc
          go_wp2_with (
            at_builtin
            refine wpList_appB (.tmp 92) (.tmp 99) (own_al O7.out _) (by_lit1n wr zn _ rfl) (bel_al B7.out B7.out.size _) rfl rfl rfl rfl (by omega) (Nat.le_trans B7.out.size (by simp)) ?_
            intro A9 k9 w9 O10 B10)
          clear zc q0 q1 q2 q3 q4 q5 q6
          go_roundw
          case rel =>
            refine ⟨q + 1, k9, A9, by omega, by go_num, by rw [show m + (q + 1) = m + q + 1 from by omega], ?_, B10.out⟩
            have h1 := O10.out
            rw [List.take_add_one, HZN.out, List.map_append, ← List.append_assoc, show m + (q + 1) = m + q + 1 from by omega]
            simpa using h1
          case measure => simp [intOf]; omega
        · have hqn : q = n2 := by omega
          obtain ⟨M, hM⟩ : ∃ M, M = m + q := ⟨_, rfl⟩
          have hME : M = szN fs is := by have := HM4.out; rw [hM, hqn, this]; unfold szN; rw [HL1.out, HL2.out]; omega
          have O8 := hide (show OwnBy wr w1.heap.size Aq (m + q) kq (bodyB i p x fs is sum) by
            have h1 := O7.out
            rw [List.take_of_length_le (by rw [HL2.out]; omega), HHB.out] at h1
            unfold bodyB
            rw [HL1.out, HL2.out]
            exact h1)
          rw [← hM] at O8 ⊢
          have hM88 : M ≤ 88 := by rw [hME]; exact HSZ2.out
          have HME := hide hME
          clear hM hME hqn O7 HM4 hm88
          go_wp2_with fail
          clear q0 q1 q2 q3 q4 q5 q6
          go_loopw [5] (fun v wr => ∃ (q kq : Nat) (Aq : Option Addr), M ≤ q ∧ q ≤ 88 ∧ v = .slice Aq q kq ∧ OwnBy wr w1.heap.size Aq q kq (bodyB i p x fs is sum ++ List.replicate (q - M) 0) ∧ Below w1.heap.size w1 wr) (fun v _ => 88 - slN v)
          case atStart => exact ⟨M, kq, Aq, Nat.le_refl _, hM88, rfl, by rw [Nat.sub_self]; simpa using O8.out, B7.out⟩
          case round =>
            clear O8 B7 BQ hq hlq hM88
            obtain ⟨q, kq, Aq, hq1, hq2, rfl, ho, hb⟩ := hrel
            have O7 := hide ho
            have B7 := hide hb
            clear ho hb
            by_cases hlq : q < 88
            · have hqs : (q : Int) < 88 := by omega
              go_wp2_with (
                at_builtin
                refine wpList_appB (.tmp 105) (.tmp 106) (own_al O7.out _) (by_lit1n wr 0 _ (by omega)) (bel_al B7.out B7.out.size _) rfl rfl rfl rfl (by omega) (Nat.le_trans B7.out.size (by simp)) ?_
                intro A9 k9 w9 O10 B10)
              go_roundw
              case rel =>
                refine ⟨q + 1, k9, A9, by omega, by omega, rfl, ?_, B10.out⟩
                have h1 := O10.out
                rw [show q + 1 - M = (q - M) + 1 by omega, List.replicate_succ', ← List.append_assoc]
                exact h1
              case measure => simp [slN]; omega
            · have hq88 : q = 88 := by omega
              have O8 := hide (show OwnBy wr w1.heap.size Aq q kq (wordsB i p x fs is sum) by
                have h1 := O7.out
                unfold wordsB
                rw [← HME.out, ← hq88]
                exact h1)
              have HQ88 := hide hq88
              have hqs : ¬ (q : Int) < 88 := by omega
              clear O7 hq1 hq2 hlq
              obtain ⟨Lw, hLw⟩ : ∃ l, l = wordsB i p x fs is sum := ⟨_, rfl⟩
              rw [← hLw] at O8
              have HLW := hide hLw
              clear hLw hq88
              go_upto_region 27 with fail
              have LK := hide (show 88 ≤ kq by
                obtain ⟨_, _, e1, h1, _⟩ := own_form O8.out
                injection e1 with e1 e2 e3
                have := HQ88.out
                omega)
              obtain ⟨wS, hwS⟩ : ∃ W, W = wr := ⟨_, rfl⟩
              subst hwS
              go_loopw [10, 11] (fun v y wq => ∃ (s ko : Nat) (Ao : Option Addr), s ≤ 8 ∧ y = .int .i64 (s : Int) ∧ v = .slice Ao (16 * s) ko ∧ OwnBy wq wS.heap.size Ao (16 * s) ko ((List.range s).flatMap fun t => secB e c Lw t) ∧ Below wS.heap.size wS wq) (fun _ y _ => 8 - (intOf y).toNat)
              case atStart => exact ⟨0, 0, none, by omega, rfl, rfl, World.ownsRow_nil _ _ _ _, Below.refl _ _⟩
              case round =>
                obtain ⟨s, ko, Ao, hs, rfl, rfl, ho, hb⟩ := hrel
                have O9 := hide ho
                have B9 := hide hb
                clear ho hb
                by_cases hls : s < 8
                · have hss : (s : Int) < 8 := by omega
                  have hs64 : IntKind.i64.wrap (s : Int) = (s : Int) := by rw [IntKind.wrap_i64]; omega
                  obtain ⟨q0, q1, q2, q3, q4, q5, q6⟩ := CP.out _ (B7.out.trans (B9.out.mono B7.out.size))
                  go_upto_region 30 with fail
                  refine (rtwo_any e wr HH.out.1.1 (by have := HH.out.1; omega)).mono ?_
                  rintro r w10 ⟨A10, k10, rfl, ho, hb⟩
                  have P10 := hide ho
                  have B10 := hide (B9.out.trans (hb.mono B9.out.size))
                  have O10 := hide (own_bbR O9.out hb)
                  clear ho hb q0 q1 q2 q3 q4 q5 q6
                  go_upto_region 30 with (
                    at_builtin
                    refine wpList_appB (.tmp 112) (.tmp 115) O10.out (own_byS P10.out) B10.out rfl rfl rfl rfl (by omega) B10.out.size ?_
                    intro A11 k11 w11 O11 B11)
                  clear O9 O10 P10
                  obtain ⟨q0, q1, q2, q3, q4, q5, q6⟩ := CP.out _ (B7.out.trans (B11.out.mono B7.out.size))
                  go_upto_region 31 with fail
                  refine (rtwo_any c w11 HH.out.2.1.1 (by have := HH.out.2.1; omega)).mono ?_
                  rintro r w12 ⟨A12, k12, rfl, ho, hb⟩
                  have P12 := hide ho
                  have B12 := hide (B11.out.trans (hb.mono B11.out.size))
                  have O12 := hide (own_bbR O11.out hb)
                  clear ho hb q0 q1 q2 q3 q4 q5 q6
                  go_upto_region 31 with (
                    at_builtin
                    refine wpList_appB (.tmp 117) (.tmp 120) O12.out (own_byS P12.out) B12.out rfl rfl rfl rfl (by omega) B12.out.size ?_
                    intro A13 k13 w13 O13 B13)
                  clear O11 O12 P12 B10 B11 B12
                  go_upto_region 32 with (
                    at_builtin
                    refine wpList_appB (.tmp 122) (.tmp 125) (own_al O13.out _) (by_lit1n w13 (s : Int) _ (by omega)) (bel_al B13.out B13.out.size _) rfl rfl rfl rfl (by omega) (Nat.le_trans B13.out.size (by simp)) ?_
                    intro A14 k14 w14 O14 B14)
                  have O8b := hide (own_bbR O8.out B14.out)
                  have hcut : ∀ W : World, (Instr.slice 30 (.slice Aq q kq) (some (.int .i64 (11 * (s : Int)))) (some (.int .i64 (11 * (s : Int) + 11))) none).run Tryd.prog W = .ok (.slice (cutA Aq kq (11 * s)) 11 (kq - 11 * s)) W := fun W => by rw [HQ88.out]; exact run_elS hls LK.out
                  have CUT := hide (by_elS (B := w14.heap.size) (k := s) (c := kq) (by have := own_byS O8b.out; rw [HQ88.out] at this; exact this) hls LK.out)
                  go_wp2_with (
                    at_builtin
                    refine wpList_appB (.tmp 127) (.tmp 134) O14.out CUT.out B14.out rfl rfl rfl rfl (by omega) B14.out.size ?_
                    intro A15 k15 w15 O15 B15)
                  clear hcut
                  go_roundw
                  case rel =>
                    refine ⟨s + 1, k15, A15, by omega, by go_num, by rw [show 16 * (s + 1) = 16 * s + 2 + 2 + 1 + 11 from by omega], ?_, B15.out⟩
                    have h1 := O15.out
                    rw [show 16 * (s + 1) = 16 * s + 2 + 2 + 1 + 11 from by omega, List.range_succ, List.flatMap_append]
                    simpa [secB] using h1
                  case measure => simp [intOf]; omega
                · have hs8 : s = 8 := by omega
                  have O10 := hide (show OwnBy wr wS.heap.size Ao (16 * s) ko (encB e c Lw) by
                    have h1 := O9.out
                    unfold encB
                    rw [← hs8]
                    exact h1)
                  have HS8 := hide (show 16 * s = 128 by omega)
                  have hss : ¬ (s : Int) < 8 := by omega
                  clear O9 hs8
                  go_wp2_with fail
                  go_ret
                  refine ⟨Ao, ko, ?_, ?_, B1.out.trans ((B7.out.trans (B9.out.mono B7.out.size)).mono B1.out.size)⟩
                  · show Ending.returned (Value.slice Ao (16 * s) ko) = _
                    rw [HS8.out]
                  · have h1 := O10.out
                    rw [HS8.out, HLW.out] at h1
                    exact own_bq h1 (Nat.le_trans B1.out.size B7.out.size)
end Go.Proofs.YtbamdibpkkponaaDoor

/- The conversion of bytes to a text, kept whole till its world is known. -/
namespace Go.Proofs.YtbamdibpkkponaaDoor
open Go.RowKit

/-- What the conversion of a slice of bytes to a text says, under one name. -/
theorem cv_ex (P : Program) (s d : TypeId) : ∃ f : Value → World → Result Value, ∀ (A : Option Addr) (n c : Nat) (w : World), (convert s d (.slice A n c)).run P w = f (.slice A n c) w :=
  ⟨fun v w => (convert s d v).run P w, fun _ _ _ _ => rfl⟩
theorem cv_txt {P : Program} {src dst e : TypeId} {f : Value → World → Result Value} (hf : ∀ (A : Option Addr) (n c : Nat) (w : World), (convert src dst (.slice A n c)).run P w = f (.slice A n c) w)
    (hs : P.underlying src = some (.slice e)) (he : P.underlying e = some (.int .u8)) (hd : P.underlying dst = some .string)
    {w : World} {B : Nat} {A : Option Addr} {n : Nat} (c : Nat) {l : List UInt8} (h : By w B A n l) : f (.slice A n c) w = .ok (.string (txt l)) w := (hf _ _ _ _).symm.trans (run_conv_txt w hs he hd c h)
end Go.Proofs.YtbamdibpkkponaaDoor
