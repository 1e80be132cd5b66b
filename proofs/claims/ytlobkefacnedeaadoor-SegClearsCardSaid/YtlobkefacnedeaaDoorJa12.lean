import Derived.Test.YtlobkefacnedeaaDoorJa11
import Derived.BigQuiet
/- The walk of seg.Write. -/
namespace Go.Proofs.YtlobkefacnedeaaDoor
open Go.RowKit
set_option maxRecDepth 100000
attribute [local go_sem ↓] Go.wp_at_zero Go.wp_at_succ

theorem rows_of (w : World) (base : Nat) : ∀ (cs : List Value) (bs : List (List UInt8)), cs.length = bs.length → (∀ b ∈ bs, b.length = 64) → (∀ (j : Nat) (x : Value) (b : List UInt8), cs[j]? = some x → bs[j]? = some b → ∃ B c, x = .slice B b.length c ∧ b.length ≤ c ∧ ByT 0 base w B b.length b) →
    ∃ rs : List Row, rs.map Row.v = cs ∧ rowsL rs = bs.flatten ∧ rowsN rs ≤ 64 * bs.length ∧ ∀ r ∈ rs, By w w.heap.size r.a r.n r.l
  | [], [], _, _, _ => ⟨[], rfl, rfl, Nat.le_refl _, by simp⟩
  | [], _ :: _, h, _, _ => by simp at h
  | _ :: _, [], h, _, _ => by simp at h
  | x :: cs, b :: bs, h, h64, hb => by
    obtain ⟨rs, e1, e2, e3, e4⟩ := rows_of w base cs bs (by simpa using h) (fun b hb => h64 b (List.mem_cons_of_mem _ hb)) (fun j x b hx hb' => hb (j + 1) x b (by simpa using hx) (by simpa using hb'))
    obtain ⟨B, c, rfl, hc, hB⟩ := hb 0 x b rfl rfl
    refine ⟨⟨B, b.length, c, b⟩ :: rs, by rw [List.map_cons, e1]; rfl, ?_, ?_, ?_⟩
    · show b ++ rowsL rs = _
      rw [e2]
      rfl
    · have := h64 b List.mem_cons_self
      show ((b.length :: rs.map Row.n) : List Nat).sum ≤ _
      rw [List.sum_cons, List.length_cons]
      have : (rs.map Row.n).sum ≤ 64 * bs.length := e3
      omega
    · intro r hr
      rcases List.mem_cons.1 hr with rfl | hr
      · exact RwAt.sl hB
      · exact e4 r hr
theorem BsAt.rows {base m : Nat} {w : World} {A : Option Addr} {bs : List (List UInt8)} (h : BsAt base w A m bs) (h64 : ∀ b ∈ bs, b.length = 64) : ∃ rs : List Row, Sl w w.heap.size A m (rs.map Row.v) ∧ (∀ r ∈ rs, By w w.heap.size r.a r.n r.l) ∧ rowsL rs = bs.flatten ∧ rowsN rs ≤ 64 * m := by
  obtain ⟨cs, e1, e2, hr, hb⟩ := h
  obtain ⟨rs, k1, k2, k3, k4⟩ := rows_of w base cs bs (by omega) h64 hb
  exact ⟨rs, by rw [k1]; exact RwAt.sl hr, k4, k2, by rw [← e2]; exact k3⟩
theorem EncAns.good {v : PV} {s base : Nat} {r : Ending} {w' : World} (h : EncAns v s base r w') (hk : v.ck = 0) : ∃ A k, r = .returned (.tuple #[.slice A 128 k, .int .i64 0]) ∧ OwnBy w' base A 128 k (v.enc s) := by
  rcases h with ⟨-, h⟩ | ⟨h, -⟩
  · exact h
  · exact absurd hk h
theorem op7 {w : World} {k : Nat} {t : TypeId} {x0 x1 x2 x3 x4 x5 x6 : Value} (h : Blk w k t #[x0, x1, x2, x3, x4, x5, x6]) :
    w.cell? ⟨k, 0, none⟩ = some x0 ∧ w.cell? ⟨k, 1, none⟩ = some x1 ∧ w.cell? ⟨k, 2, none⟩ = some x2 ∧ w.cell? ⟨k, 3, none⟩ = some x3 ∧ w.cell? ⟨k, 4, none⟩ = some x4 ∧ w.cell? ⟨k, 5, none⟩ = some x5 ∧ w.cell? ⟨k, 6, none⟩ = some x6 :=
  ⟨h.cell 0, h.cell 1, h.cell 2, h.cell 3, h.cell 4, h.cell 5, h.cell 6⟩
set_option maxHeartbeats 4000000 in
theorem write_any (w0 w : World) (d : Nat) (D : Dsk) (h : LD w0 w d D) (a : Int) (ha64 : I64 a) (v : PV) (A1 A2 : Option Addr) (n1 c1 n2 c2 lo lo2 : Nat) (sp : SpanAt w0) (hf : FisAt lo w0.heap.size w A1 n1 v.fs) (hi : IntsAt lo2 w0.heap.size w A2 n2 v.is) (hn1 : n1 ≤ 1000) (hn2 : n2 ≤ 100000) (hls : lsN v.fs ≤ 100000)
    (h64 : ∀ f ∈ v.fs, ∀ x ∈ f.ls, I64 x) (A : Option Addr) (m c : Nat) (bs : List (List UInt8)) (hb : BsAt w0.heap.size w A m bs) (hm : m ≤ 1000000) (hs : D.steps ≤ 700000) (hq : D.queue.length ≤ 700000) :
    Calls Tryd.prog 13 #[.pointer (some ⟨d, 0, none⟩), .int .i64 a, .agg (partC v.e v.c v.i v.p v.x A1 n1 c1 A2 n2 c2), .slice A m c] w fun r w' => r = .returned (.int .i64 (wrS D a v bs).1) ∧ Stp w0 w w' d D (wrS D a v bs).2 := by
  have H := hide h
  have HF := hide hf
  have HI := hide hi
  have SP := hide (sp.bel h.bel)
  have sp0 := hide sp
  have H64 := hide h64
  have HB := hide hb
  have HQ := hide (And.intro hs hq)
  have HM := hide (And.intro hb.len hm)
  have HLN := hide (And.intro hf.len (IntsAt.len hi))
  have A64 := hide ha64
  obtain ⟨N, hN⟩ : ∃ N, N = D.sure.length := ⟨_, rfl⟩
  have HN := hide (show N = D.sure.length ∧ N ≤ 4096 from ⟨hN, by have := h.ok.n; omega⟩)
  have hN4 : N ≤ 4096 := HN.out.2
  clear hN h hf hi sp h64 hb hs hq ha64
  obtain ⟨R, hR⟩ : ∃ R, R = wrS D a v bs := ⟨_, rfl⟩
  have HR := hide hR
  rw [← hR]
  clear hR
  unfold partC
  go_enter Tryd.func13, Tryd.ntmps13
  go_upto_region 1 with fail
  obtain ⟨w1, hw⟩ : ∃ W, W = w.alloc (.cells #[.int .i64 v.e, .int .i64 v.c, .int .i64 v.i, .int .i64 v.p, .int .i64 v.x, .slice A1 n1 c1, .slice A2 n2 c2] 25) := ⟨_, rfl⟩
  have X2 : Hid (Blk w1 w.heap.size 25 #[.int .i64 v.e, .int .i64 v.c, .int .i64 v.i, .int .i64 v.p, .int .i64 v.x, .slice A1 n1 c1, .slice A2 n2 c2]) := hide (by rw [hw]; exact Blk.new _ _ _)
  have BW : Hid (Below w.heap.size w w1) := hide (by rw [hw]; exact (Below.refl _ _).alloc (Nat.le_refl _) _)
  rw [← hw]
  obtain ⟨g2, hg⟩ : ∃ g, g = w.heap.size := ⟨_, rfl⟩
  rw [← hg] at X2 ⊢
  clear hw hg
  have y0 := X2.out.cell 0
  have y1 := X2.out.cell 1
  have y2 := X2.out.cell 2
  have y3 := X2.out.cell 3
  have y4 := X2.out.cell 4
  have y5 := X2.out.cell 5
  have y6 := X2.out.cell 6
  simp only [List.getElem?_toArray, List.getElem?_cons_succ, List.getElem?_cons_zero] at y0 y1 y2 y3 y4 y5 y6
  go_wp2_with fail
  clear y0 y1 y2 y3 y4 y5 y6
  refine (check_any v.e v.c v.i v.p v.x A1 A2 n1 c1 n2 c2 _ _ _ _ v.fs v.is w1 (SP.out.bel BW.out) (HF.out.below BW.out) (RwAt.below HI.out BW.out) hn1 hn2 hls H64.out).mono ?_
  rintro r w2 ⟨rfl, hb⟩
  replace X2 := hide (X2.out.below hb)
  replace BW := hide (BW.out.trans (hb.mono BW.out.size))
  clear hb
  obtain ⟨q, hq⟩ : ∃ q, q = checkP v.e v.c v.i v.p v.x v.fs v.is := ⟨_, rfl⟩
  have HQK := hide (show v.ck = q from hq.symm)
  rw [← hq]
  clear hq
  by_cases hck : q = 0
  rotate_left
  · have hqn : (q != 0) = true := bne_iff_ne.2 hck
    have HP := hide (show R = (q, D) by rw [HR.out]; unfold wrS; rw [if_pos (by rw [HQK.out]; exact hck), HQK.out])
    clear hck
    go_wp2_with fail
    go_ret
    rw [HP.out]
    exact ⟨rfl, Stp.of_below H.out BW.out⟩
  subst hck
  have y0 := X2.out.cell 0
  have y1 := X2.out.cell 1
  have y2 := X2.out.cell 2
  have y3 := X2.out.cell 3
  have y4 := X2.out.cell 4
  have y5 := X2.out.cell 5
  have y6 := X2.out.cell 6
  simp only [List.getElem?_toArray, List.getElem?_cons_succ, List.getElem?_cons_zero] at y0 y1 y2 y3 y4 y5 y6
  go_wp2_with fail
  clear y0 y1 y2 y3 y4 y5 y6
  refine (sblocks_any v.e v.c v.i v.p v.x A1 A2 n1 c1 n2 c2 _ _ v.fs w2 (HF.out.below BW.out) (by omega) hn2 hls).mono ?_
  rintro r w3 ⟨rfl, hb⟩
  replace X2 := hide (X2.out.below hb)
  replace BW := hide (BW.out.trans (hb.mono BW.out.size))
  clear hb
  have HV := hide (PV.n_bd HQK.out)
  have HNV := hide (show 2 + n2 + lsN v.fs = v.n by unfold PV.n; rw [HLN.out.2])
  rw [HNV.out]
  obtain ⟨n, hn⟩ : ∃ n, n = v.n := ⟨_, rfl⟩
  have HVN := hide (show n = v.n ∧ 2 ≤ n ∧ n ≤ 200 from ⟨hn, by rw [hn]; exact HV.out⟩)
  rw [← hn]
  have hn200 : n ≤ 200 := HVN.out.2.2
  clear hn HV HNV
  obtain ⟨x, hx⟩ : ∃ x, x = v.x := ⟨_, rfl⟩
  have HX := hide (show x = v.x ∧ 0 ≤ x ∧ x ≤ 65535 from ⟨hx, by rw [hx]; obtain ⟨⟨⟨_, _, _, _, h⟩, _⟩, _⟩ := PV.gd HQK.out; omega⟩)
  rw [← hx] at X2
  clear hx
  have y4 := X2.out.cell 4
  simp only [List.getElem?_toArray, List.getElem?_cons_succ, List.getElem?_cons_zero] at y4
  go_upto_region 5 with fail
  go_cut [64] (fun y wx => ∃ k, wx = w3.drewN k ∧ ((fitS D a v m ∧ y = .bool false) ∨ (¬ fitS D a v m ∧ y = .bool true)))
  case first =>
    have CS : ∀ k, Calls Tryd.prog 38 #[.pointer (some ⟨d, 0, none⟩)] (w3.drewN k) fun e w' => e = .returned (.int .i64 (N : Int)) ∧ w' = w3.drewN k := fun k => by
      rw [HN.out.1]
      exact (ld_size ((H.out.below BW.out).drewN k)).mono fun _ _ h => ⟨h.1, h.2.symm⟩
    have hf0 : Hid (fitS D a v m ↔ ((m : Int) = (n : Int) - 2 ∧ 0 ≤ a ∧ a ≤ (N : Int) - n ∧ x ≤ (N : Int) - 2) ∧ ¬ (x < a + n ∧ a < x + 2)) := hide (by unfold fitS; rw [HVN.out.1, HN.out.1, HX.out.1])
    have hx0 : 0 ≤ x ∧ x ≤ 65535 := HX.out.2
    have hw1 : IntKind.i64.wrap ((n : Int) - 2) = (n : Int) - 2 := IntWalk.i64_in _ (by omega)
    have hw2 : IntKind.i64.wrap ((N : Int) - (n : Int)) = (N : Int) - (n : Int) := IntWalk.i64_in _ (by omega)
    have hw3 : IntKind.i64.wrap ((N : Int) - 2) = (N : Int) - 2 := IntWalk.i64_in _ (by omega)
    have hw5 : IntKind.i64.wrap (x + 2) = x + 2 := IntWalk.i64_in _ (by omega)
    by_cases e1 : (m : Int) = (n : Int) - 2
    rotate_left
    · have b1 : ((m : Int) != (n : Int) - 2) = true := bne_iff_ne.2 e1
      have HP := hide (show ¬ fitS D a v m from fun h => e1 (hf0.out.1 h).1.1)
      clear e1 hx0 hw2 hw3 hw5
      go_quiet (fail)
      go_wp2_with fail
      go_meet
      exact ⟨_, rfl, .inr ⟨HP.out, rfl⟩⟩
    have b1 : ((m : Int) != (n : Int) - 2) = false := by simp [e1]
    by_cases e2 : a < 0
    · have HP := hide (show ¬ fitS D a v m from fun h => absurd (hf0.out.1 h).1.2.1 (by omega))
      clear e1 hx0 hw2 hw3 hw5
      go_quiet (fail)
      go_wp2_with fail
      go_meet
      exact ⟨_, rfl, .inr ⟨HP.out, rfl⟩⟩
    have b2 : decide (a < 0) = false := decide_eq_false e2
    by_cases e3 : (N : Int) - n < a
    · have HP := hide (show ¬ fitS D a v m from fun h => absurd (hf0.out.1 h).1.2.2.1 (by omega))
      clear e1 e2 hx0 hw3 hw5
      go_quiet ((go_at_call 38; exact Calls.quiet_of_same (CS _)))
      go_wp2_with fail
      go_meet
      exact ⟨_, rfl, .inr ⟨HP.out, rfl⟩⟩
    have b3 : decide ((N : Int) - n < a) = false := decide_eq_false e3
    have hw4 : IntKind.i64.wrap (a + n) = a + n := IntWalk.i64_in _ (by omega)
    by_cases e4 : (N : Int) - 2 < x
    · have HP := hide (show ¬ fitS D a v m from fun h => absurd (hf0.out.1 h).1.2.2.2 (by omega))
      clear e1 e2 e3 hx0 hw5 hw4
      go_quiet ((go_at_call 38; exact Calls.quiet_of_same (CS _)))
      go_wp2_with fail
      go_meet
      exact ⟨_, rfl, .inr ⟨HP.out, rfl⟩⟩
    have b4 : decide ((N : Int) - 2 < x) = false := decide_eq_false e4
    by_cases e5 : x < a + n
    · by_cases e6 : a < x + 2
      · have HP := hide (show ¬ fitS D a v m from fun h => (hf0.out.1 h).2 ⟨e5, e6⟩)
        clear e1 e2 e3 e4 hx0
        go_quiet ((go_at_call 38; exact Calls.quiet_of_same (CS _)))
        go_wp2_with fail
        go_meet
        exact ⟨_, rfl, .inr ⟨HP.out, rfl⟩⟩
      · have HP := hide (show fitS D a v m from hf0.out.2 ⟨⟨e1, by omega, by omega, by omega⟩, fun h => e6 h.2⟩)
        have b6 : decide (a < x + 2) = false := decide_eq_false e6
        clear e1 e2 e3 e4 e6 hx0
        go_quiet ((go_at_call 38; exact Calls.quiet_of_same (CS _)))
        go_wp2_with fail
        go_meet
        exact ⟨_, rfl, .inl ⟨HP.out, rfl⟩⟩
    · have HP := hide (show fitS D a v m from hf0.out.2 ⟨⟨e1, by omega, by omega, by omega⟩, fun h => e5 h.1⟩)
      have b5 : decide (x < a + n) = false := decide_eq_false e5
      clear e1 e2 e3 e4 e5 hx0 hw5
      go_quiet ((go_at_call 38; exact Calls.quiet_of_same (CS _)))
      go_wp2_with fail
      go_meet
      exact ⟨_, rfl, .inl ⟨HP.out, rfl⟩⟩
  case rest =>
    obtain ⟨k0, rfl, ⟨hfit, rfl⟩ | ⟨hfit, rfl⟩⟩ := hcut
    rotate_left
    · have HP := hide (show R = (22, D) by rw [HR.out]; unfold wrS; rw [if_neg (by rw [HQK.out]; decide), if_pos (by rw [HM.out.1]; exact hfit)])
      clear y4
      go_wp2_with fail
      go_ret
      rw [HP.out]
      exact ⟨rfl, (Stp.of_below H.out BW.out).below (bel_dN (Below.refl _ _) k0)⟩
    have HFT := hide (show (m : Int) = (n : Int) - 2 ∧ 0 ≤ a ∧ a ≤ (N : Int) - n ∧ x ≤ (N : Int) - 2 by
      unfold fitS at hfit
      rw [← HVN.out.1, ← HN.out.1, ← HX.out.1] at hfit
      exact hfit.1)
    have HFI := hide hfit
    obtain ⟨k, rfl⟩ : ∃ k : Nat, a = (k : Int) := ⟨a.toNat, by have := HFT.out.2.1; omega⟩
    have hkN : k + n ≤ N := by have := HFT.out.2.2.1; omega
    have hmn : m + 2 = n := by have := HFT.out.1; have := HVN.out.2.1; omega
    replace X2 := hide (show Blk (w3.drewN k0) g2 25 #[.int .i64 v.e, .int .i64 v.c, .int .i64 v.i, .int .i64 v.p, .int .i64 x, .slice A1 n1 c1, .slice A2 n2 c2] from X2.out)
    replace BW := hide (show Below w.heap.size w (w3.drewN k0) from bel_dN BW.out k0)
    generalize w3.drewN k0 = w4 at *
    have B4 := hide (HB.out.below BW.out)
    clear hfit y4
    go_wp2_with fail
    go_loopw [67] (fun y wr => ∃ j : Nat, j ≤ m ∧ y = .int .i64 (j : Int) ∧ wr = w4 ∧ ∀ b ∈ bs.take j, b.length = 64) (fun y _ => m - (intOf y).toNat)
    case atStart => exact ⟨0, Nat.zero_le _, rfl, rfl, by simp⟩
    case round =>
      obtain ⟨j, hj, rfl, rfl, hj64⟩ := hrel
      have HJ := hide hj64
      clear hj64
      by_cases hlt : j < m
      · obtain ⟨b, off, B, cB, l, hA, hc, hl, hlc, hB⟩ := B4.out.at hlt
        have HL := hide hl
        subst hA
        have hjs : (j : Int) < (m : Int) := by omega
        obtain ⟨q, hq⟩ : ∃ q, q = l.length := ⟨_, rfl⟩
        have hQ := hide hq
        rw [← hq] at hc
        clear hl hlc hB hq
        by_cases h64 : q = 64
        · subst h64
          go_wp2_with fail
          go_roundw
          case rel =>
            refine ⟨j + 1, by omega, by go_num, trivial, fun b hb => ?_⟩
            rw [List.take_add_one, HL.out] at hb
            rcases List.mem_append.1 hb with hb | hb
            · exact HJ.out b hb
            · simp only [Option.toList, List.mem_singleton] at hb
              rw [hb, ← hQ.out]
          case measure => simp [intOf]; omega
        · have HP := hide (show R = (22, D) by
            rw [HR.out]; unfold wrS
            rw [if_neg (by rw [HQK.out]; decide), if_neg (by rw [HM.out.1]; exact fun h => h HFI.out), if_pos]
            exact List.any_eq_true.2 ⟨l, List.mem_of_getElem? HL.out, by simp; rw [← hQ.out]; exact h64⟩)
          have hb64 : ((q : Int) != 64) = true := bne_iff_ne.2 (by omega)
          clear h64
          go_wp2_with fail
          go_ret
          rw [HP.out]
          exact ⟨rfl, Stp.of_below H.out BW.out⟩
      · have hjs : ¬ (j : Int) < (m : Int) := by omega
        have H6 := hide (show ∀ b ∈ bs, b.length = 64 by
          have := HJ.out
          rw [List.take_of_length_le (by rw [HM.out.1]; omega)] at this
          exact this)
        have HP := hide (show R = andS (putS D (k + 2) bs) fun D => andS (clrS D v.x) fun D => andS (putS D k [(v.enc (crc bs.flatten)).take 64, (v.enc (crc bs.flatten)).drop 64]) barS by
          rw [HR.out]; unfold wrS
          rw [if_neg (by rw [HQK.out]; decide), if_neg (by rw [HM.out.1]; exact fun h => h HFI.out), if_neg (by
            rw [Bool.not_eq_true, List.any_eq_false]
            intro b hbm
            simp [H6.out b hbm]), Int.toNat_natCast])
        clear HJ
        have PC := hide (put_any w0 _ d D (H.out.below BW.out) (k + 2) A m c bs B4.out H6.out (by have := HN.out.1; omega) (by have := HQ.out; have := hmn; omega) (by have := HQ.out; have := hmn; omega))
        obtain ⟨P, hP⟩ : ∃ P, P = putS D (k + 2) bs := ⟨_, rfl⟩
        have PB := hide (show P.2.steps ≤ D.steps + 200 ∧ P.2.queue.length ≤ D.queue.length + 200 ∧ P.2.sure.length = D.sure.length by
          have := putS_bd bs D (k + 2)
          have := HM.out.1
          rw [hP]
          exact ⟨by omega, by omega, putS_len _ _ _⟩)
        rw [← hP] at PC HP
        clear hP
        have hw2 : IntKind.i64.wrap ((k : Int) + 2) = ((k + 2 : Nat) : Int) := by rw [IntKind.wrap_i64]; omega
        go_wp2_with fail
        refine PC.out.mono ?_
        rintro r w5 ⟨rfl, hst⟩
        have ST := hide ((Stp.of_below H.out BW.out).trans hst)
        replace X2 := hide (X2.out.kt (stp_kt (H.out.below BW.out) hst) (by decide))
        clear hst PC hw2
        obtain ⟨pc, E⟩ := P
        dsimp only at PB ST ⊢
        by_cases hpc : pc = 0
        rotate_left
        · have hpn : (pc != 0) = true := bne_iff_ne.2 hpc
          replace HP := hide (show R = (pc, E) by rw [HP.out]; unfold andS; rw [if_neg hpc])
          clear hpc
          go_wp2_with fail
          go_ret
          rw [HP.out]
          exact ⟨rfl, ST.out⟩
        subst hpc
        replace HP := hide (show R = andS (clrS E v.x) fun D => andS (putS D k [(v.enc (crc bs.flatten)).take 64, (v.enc (crc bs.flatten)).drop 64]) barS from HP.out)
        have CC := hide (clear_any w0 _ d E ST.out.ld x (by have := HQ.out; have := PB.out; omega) (by have := HQ.out; have := PB.out; omega))
        rw [← HX.out.1] at HP
        obtain ⟨P, hP⟩ : ∃ P, P = clrS E x := ⟨_, rfl⟩
        replace PB := hide (show P.2.steps ≤ D.steps + 210 ∧ P.2.queue.length ≤ D.queue.length + 210 ∧ P.2.sure.length = D.sure.length by
          have := clrS_bd E x
          have := clrS_len E x
          have := PB.out
          rw [hP]
          omega)
        rw [← hP] at CC HP
        clear hP
        have y4 := X2.out.cell 4
        simp only [List.getElem?_toArray, List.getElem?_cons_succ, List.getElem?_cons_zero] at y4
        go_wp2_with fail
        clear y4
        refine CC.out.mono ?_
        rintro r w6 ⟨rfl, hst⟩
        replace X2 := hide (X2.out.kt (stp_kt ST.out.ld hst) (by decide))
        replace ST := hide (ST.out.trans hst)
        clear hst CC
        obtain ⟨pc, E⟩ := P
        dsimp only at PB ST ⊢
        by_cases hpc : pc = 0
        rotate_left
        · have hpn : (pc != 0) = true := bne_iff_ne.2 hpc
          replace HP := hide (show R = (pc, E) by rw [HP.out]; unfold andS; rw [if_neg hpc])
          clear hpc
          go_wp2_with fail
          go_ret
          rw [HP.out]
          exact ⟨rfl, ST.out⟩
        subst hpc
        replace HP := hide (show R = andS (putS E k [(v.enc (crc bs.flatten)).take 64, (v.enc (crc bs.flatten)).drop 64]) barS from HP.out)
        have hy := op7 X2.out
        go_upto_region 19 with fail
        refine wp_region_noPanic ?_
        refine wp_region_held_drew (S := (fun w' => w'.cell? ⟨g2, 0, none⟩ = some (.int .i64 v.e) ∧ w'.cell? ⟨g2, 1, none⟩ = some (.int .i64 v.c) ∧ w'.cell? ⟨g2, 2, none⟩ = some (.int .i64 v.i) ∧ w'.cell? ⟨g2, 3, none⟩ = some (.int .i64 v.p) ∧ w'.cell? ⟨g2, 4, none⟩ = some (.int .i64 x) ∧ w'.cell? ⟨g2, 5, none⟩ = some (.slice A1 n1 c1) ∧ w'.cell? ⟨g2, 6, none⟩ = some (.slice A2 n2 c2))) (by kernel_rfl) ?_ (fun hHeld => ?_)
        · ((try dsimp only) <;> (first | trivial | assumption | go_keep))
        clear hy
        replace ST := hide (ST.out.below (Below.refl _ _).drew)
        replace X2 := hide X2.out.drew
        generalize w6.drew = w7 at *
        have K6 := hide (stp_kt H.out ((Stp.of_below H.out (Below.refl _ _)).trans ST.out))
        have B6 := hide (HB.out.kt K6.out (by decide) (by decide))
        obtain ⟨rs, r1, r2, r3, r4⟩ := B6.out.rows H6.out
        have PT := hide (parts_any rs A m c _ w7 r1 r2 (by omega) (by omega))
        rw [r3] at PT
        obtain ⟨sm, hsm⟩ : ∃ sm, sm = crc bs.flatten := ⟨_, rfl⟩
        have HSM := hide (show sm < 4294967296 by rw [hsm]; exact crc_lt _)
        rw [← hsm] at PT HP
        have EC := hide (enc_any v sm HSM.out A1 A2 n1 c1 n2 c2 _ _ _ _ w7 ((sp0.out.bel ST.out.ld.bel)) (HF.out.kt K6.out (by decide) (by decide)) (RwAt.kt HI.out K6.out (by decide)) hn1 hn2 hls H64.out)
        unfold partC at EC
        rw [← HX.out.1] at EC
        clear r1 r2 r3 r4 hsm B6 K6
        refine wpAnyH_take (i := 0) (v := ?_) (by simp only [List.getElem?_toArray, List.getElem?_cons_zero]; rfl) (by kernel_rfl) (by kernel_rfl) (by kernel_rfl) (fun _ _ _ h => h) (Or.inl ⟨by rfl, ?_⟩) (by assumption) ?_
        rotate_left 1
        · (intro w hSw; (try dsimp only at hSw); go_simp; try with_reducible rfl)
        try simp only [Act.put, List.setIfInBounds_toArray, List.set_cons_zero, List.set_cons_succ]
        refine wpAnyH_take (i := 1) (v := ?_) (by simp only [List.getElem?_toArray, List.getElem?_cons_succ, List.getElem?_cons_zero]; rfl) (by kernel_rfl) (by kernel_rfl) (by kernel_rfl) (fun _ _ _ h => h) (Or.inl ⟨by rfl, ?_⟩) (by assumption) ?_
        rotate_left 1
        · (intro w hSw; (try dsimp only at hSw); go_simp; try with_reducible rfl)
        try simp only [Act.put, List.setIfInBounds_toArray, List.set_cons_zero, List.set_cons_succ]
        refine wpAnyH_ready (rs := [2]) (by kernel_rfl) (by simp) ?_
        refine AllReadyH.cons (by simp only [List.getElem?_toArray, List.getElem?_cons_succ, List.getElem?_cons_zero]; rfl) (fun K hK => ?_) ?_
        rotate_left 1
        · exact AllReadyH.nil
        go_simp
        refine PT.out.mono ?_; rintro r w8 ⟨rfl, rfl⟩
        refine hK.out _ _ ?_ (fun hHeld2 => ?_)
        · ((try dsimp only) <;> (first | trivial | assumption | go_keep))
        clear hHeld
        have hHeld := hHeld2
        clear hHeld2 hK K
        try simp only [Act.put, List.setIfInBounds_toArray, List.set_cons_zero, List.set_cons_succ]
        refine wpAnyH_ready (rs := [3]) (by kernel_rfl) (by simp) ?_
        refine AllReadyH.cons (by simp only [List.getElem?_toArray, List.getElem?_cons_succ, List.getElem?_cons_zero]; rfl) (fun K hK => ?_) ?_
        rotate_left 1
        · exact AllReadyH.nil
        go_simp
        refine EC.out.mono ?_; rintro r w8 ⟨he, hb⟩; obtain ⟨Ae, ke, rfl, ho⟩ := he.good HQK.out; have OE := hide ho; have S7 := hide hb.size; replace ST := hide (ST.out.below hb); replace X2 := hide (X2.out.below hb); have hy := op7 X2.out; clear ho hb
        refine hK.out _ _ ?_ (fun hHeld2 => ?_)
        · ((try dsimp only) <;> (first | trivial | assumption | go_keep))
        clear hHeld
        have hHeld := hHeld2
        clear hHeld2 hK K
        try simp only [Act.put, List.setIfInBounds_toArray, List.set_cons_zero, List.set_cons_succ]
        clear hHeld PT EC hy
        have KE := hide (show 128 ≤ ke ∧ ke ≤ 9223372036854775807 by
          obtain ⟨_, _, e, h1, h2⟩ := own_form OE.out
          injection e with e1 e2 e3
          subst e3
          exact ⟨h1, h2⟩)
        have hHeld := op7 X2.out
        refine wpAnyH_take (i := 4) (v := ?_) (by simp only [List.getElem?_toArray, List.getElem?_cons_succ, List.getElem?_cons_zero]; rfl) (by kernel_rfl) (by kernel_rfl) (by kernel_rfl) (fun _ _ _ h => h) (Or.inl ⟨by rfl, ?_⟩) (by assumption) ?_
        rotate_left 1
        · (intro w hSw; (try dsimp only at hSw); go_simp; try with_reducible rfl)
        try simp only [Act.put, List.setIfInBounds_toArray, List.set_cons_zero, List.set_cons_succ]
        refine wpAnyH_take (i := 5) (v := ?_) (by simp only [List.getElem?_toArray, List.getElem?_cons_succ, List.getElem?_cons_zero]; rfl) (by kernel_rfl) (by kernel_rfl) (by kernel_rfl) (fun _ _ _ h => h) (Or.inl ⟨by rfl, ?_⟩) (by assumption) ?_
        rotate_left 1
        · (intro w hSw; (try dsimp only at hSw); go_simp; try with_reducible rfl)
        try simp only [Act.put, List.setIfInBounds_toArray, List.set_cons_zero, List.set_cons_succ]
        refine wpAnyH_take (i := 6) (v := ?_) (by simp only [List.getElem?_toArray, List.getElem?_cons_succ, List.getElem?_cons_zero]; rfl) (by kernel_rfl) (by kernel_rfl) (by kernel_rfl) (fun _ _ _ h => h) (Or.inl ⟨by rfl, ?_⟩) (by assumption) ?_
        rotate_left 1
        · (intro w hSw; (try dsimp only at hSw); go_simp; try with_reducible rfl)
        try simp only [Act.put, List.setIfInBounds_toArray, List.set_cons_zero, List.set_cons_succ]
        refine wpAnyH_take (i := 7) (v := ?_) (by simp only [List.getElem?_toArray, List.getElem?_cons_succ, List.getElem?_cons_zero]; rfl) (by kernel_rfl) (by kernel_rfl) (by kernel_rfl) (fun _ _ _ h => h) (Or.inl ⟨by rfl, ?_⟩) (by assumption) ?_
        rotate_left 1
        · (intro w hSw; (try dsimp only at hSw); go_simp; try with_reducible rfl)
        try simp only [Act.put, List.setIfInBounds_toArray, List.set_cons_zero, List.set_cons_succ]
        refine wpAnyH_take (i := 8) (v := ?_) (by simp only [List.getElem?_toArray, List.getElem?_cons_succ, List.getElem?_cons_zero]; rfl) (by kernel_rfl) (by kernel_rfl) (by kernel_rfl) (fun _ _ _ h => h) (Or.inl ⟨by rfl, ?_⟩) (by assumption) ?_
        rotate_left 1
        · (intro w hSw; (try dsimp only at hSw); go_simp; try with_reducible rfl)
        try simp only [Act.put, List.setIfInBounds_toArray, List.set_cons_zero, List.set_cons_succ]
        refine wpAnyH_done (by kernel_rfl) ?_ _
        refine NoPanic.normal ?_
        clear hHeld X2
        obtain ⟨EV, hEV⟩ : ∃ EV, EV = v.enc sm := ⟨_, rfl⟩
        have HEL := hide (show EV.length = 128 by rw [hEV]; exact PV.enc_len HQK.out _)
        rw [← hEV] at OE HP
        clear hEV
        have T1 := hide (ByT.head (RwAt.of_own (base := w0.heap.size) OE.out) (m := 64) (by decide))
        have T2 := hide (ByT.cut (RwAt.of_own (base := w0.heap.size) OE.out) (m := 64) (c := ke) (by decide) KE.out.1)
        have hs1 : ∀ W, (Instr.slice 26 (.slice Ae 128 ke) none (some (.int .i64 64)) none).run Tryd.prog W = .ok (.slice Ae 64 ke) W := fun W => run_cut_h etyB Ae 128 ke W 64 .i64 (by have := KE.out; omega)
        have hs2 : ∀ W, (Instr.slice 26 (.slice Ae 128 ke) (some (.int .i64 64)) none none).run Tryd.prog W = .ok (.slice (cutA Ae ke 64) 64 (ke - 64)) W := fun W => run_cut_l etyB Ae 128 ke W 64 .i64 (by omega)
        go_upto_region 20 with fail
        refine wp_region_noPanic ?_
        refine wp_region_held_drew (S := (fun _ => True)) (by kernel_rfl) ?_ (fun hHeld => ?_)
        · ((try dsimp only) <;> (first | trivial | assumption | go_keep))
        replace ST := hide (ST.out.below (Below.refl _ _).drew)
        replace T1 := hide (show ByT 0 w0.heap.size w8.drew Ae 64 (EV.take 64) from (RwAt.below T1.out (Below.refl _ _).drew).lo_ (Nat.zero_le _))
        replace T2 := hide (show ByT 0 w0.heap.size w8.drew (cutA Ae ke 64) 64 (EV.drop 64) from (RwAt.below T2.out (Below.refl _ _).drew).lo_ (Nat.zero_le _))
        generalize w8.drew = w9 at *
        refine wpAnyH_take (i := 0) (v := ?_) (by simp only [List.getElem?_toArray, List.getElem?_cons_zero]; rfl) (by kernel_rfl) (by kernel_rfl) (by kernel_rfl) (fun _ _ _ h => h) (Or.inl ⟨by rfl, ?_⟩) (by assumption) ?_
        rotate_left 1
        · (intro w hSw; (try dsimp only at hSw); go_simp; try with_reducible rfl)
        try simp only [Act.put, List.setIfInBounds_toArray, List.set_cons_zero, List.set_cons_succ]
        refine wpAnyH_take (i := 1) (v := ?_) (by simp only [List.getElem?_toArray, List.getElem?_cons_succ, List.getElem?_cons_zero]; rfl) (by kernel_rfl) (by kernel_rfl) (by kernel_rfl) (fun _ _ _ h => h) (Or.inl ⟨by rfl, ?_⟩) (by assumption) ?_
        rotate_left 1
        · (intro w hSw; (try dsimp only at hSw); go_simp; try with_reducible rfl)
        try simp only [Act.put, List.setIfInBounds_toArray, List.set_cons_zero, List.set_cons_succ]
        refine wpAnyH_take (i := 2) (v := ?_) (by simp only [List.getElem?_toArray, List.getElem?_cons_succ, List.getElem?_cons_zero]; rfl) (by kernel_rfl) (by kernel_rfl) (by kernel_rfl) (fun _ _ _ h => h) (Or.inl ⟨by rfl, ?_⟩) (by assumption) ?_
        rotate_left 1
        · (intro w hSw; (try dsimp only at hSw); go_simp; try with_reducible rfl)
        try simp only [Act.put, List.setIfInBounds_toArray, List.set_cons_zero, List.set_cons_succ]
        refine wpAnyH_take (i := 3) (v := ?_) (by simp only [List.getElem?_toArray, List.getElem?_cons_succ, List.getElem?_cons_zero]; rfl) (by kernel_rfl) (by kernel_rfl) (by kernel_rfl) (fun _ _ _ h => h) (Or.inl ⟨by rfl, ?_⟩) (by assumption) ?_
        rotate_left 1
        · (intro w hSw; (try dsimp only at hSw); go_simp; try with_reducible rfl)
        try simp only [Act.put, List.setIfInBounds_toArray, List.set_cons_zero, List.set_cons_succ]
        refine wpAnyH_take (i := 4) (v := ?_) (by simp only [List.getElem?_toArray, List.getElem?_cons_succ, List.getElem?_cons_zero]; rfl) (by kernel_rfl) (by kernel_rfl) (by kernel_rfl) (fun _ _ _ h => h) (Or.inl ⟨by rfl, ?_⟩) (by assumption) ?_
        rotate_left 1
        · (intro w hSw; (try dsimp only at hSw); go_simp; try with_reducible rfl)
        try simp only [Act.put, List.setIfInBounds_toArray, List.set_cons_zero, List.set_cons_succ]
        refine wpAnyH_take (i := 5) (v := ?_) (by simp only [List.getElem?_toArray, List.getElem?_cons_succ, List.getElem?_cons_zero]; rfl) (by kernel_rfl) (by kernel_rfl) (by kernel_rfl) (fun _ _ _ h => h) (Or.inl ⟨by rfl, ?_⟩) (by assumption) ?_
        rotate_left 1
        · (intro w hSw; (try dsimp only at hSw); go_simp; try with_reducible rfl)
        try simp only [Act.put, List.setIfInBounds_toArray, List.set_cons_zero, List.set_cons_succ]
        refine wpAnyH_ready (rs := [6]) (by kernel_rfl) (by simp) ?_
        refine AllReadyH.cons (by simp only [List.getElem?_toArray, List.getElem?_cons_succ, List.getElem?_cons_zero]; rfl) (fun K hK => ?_) ?_
        rotate_left 1
        · exact AllReadyH.nil
        go_simp
        refine hK.out _ _ ?_ (fun hHeld2 => ?_)
        · ((try dsimp only) <;> (first | trivial | assumption | go_keep))
        clear hHeld
        have hHeld := hHeld2
        clear hHeld2 hK K
        try simp only [Act.put, List.setIfInBounds_toArray, List.set_cons_zero, List.set_cons_succ]
        clear hs1 hs2
        have BA := hide ((Below.refl w9.heap.size w9).alloc (Nat.le_refl _) (.cells #[.slice Ae 64 ke, .slice (cutA Ae ke 64) 64 (ke - 64)] 26))
        have PC := hide (put_any w0 _ d E (ST.out.below BA.out).ld k _ 2 2 [EV.take 64, EV.drop 64] (bs_two (base := w0.heap.size) T1.out T2.out (by have := KE.out; omega) (by have := KE.out; omega)) (by
          intro b hb
          have := HEL.out
          simp only [List.mem_cons, List.not_mem_nil, or_false] at hb
          rcases hb with rfl | rfl
          · rw [List.length_take]; omega
          · rw [List.length_drop]; omega) (by have := PB.out.2.2; have := HN.out.1; omega) (by have := HQ.out; have := PB.out; omega) (by have := HQ.out; have := PB.out; omega))
        replace ST := hide (ST.out.below BA.out)
        obtain ⟨P, hP⟩ : ∃ P, P = putS E k [EV.take 64, EV.drop 64] := ⟨_, rfl⟩
        have PB2 := hide (show P.2.steps ≤ D.steps + 220 by
          have := (putS_bd [EV.take 64, EV.drop 64] E k).1
          rw [← hP] at this
          have := PB.out
          simp only [List.length_cons, List.length_nil] at *
          omega)
        rw [← hP] at PC HP
        clear hP
        refine wpAnyH_ready (rs := [7]) (by kernel_rfl) (by simp) ?_
        refine AllReadyH.cons (by simp only [List.getElem?_toArray, List.getElem?_cons_succ, List.getElem?_cons_zero]; rfl) (fun K hK => ?_) ?_
        rotate_left 1
        · exact AllReadyH.nil
        go_simp
        refine PC.out.mono ?_; rintro r w5 ⟨rfl, hst⟩; replace ST := hide (ST.out.trans hst); clear hst
        refine hK.out _ _ ?_ (fun hHeld2 => ?_)
        · ((try dsimp only) <;> (first | trivial | assumption | go_keep))
        clear hHeld
        have hHeld := hHeld2
        clear hHeld2 hK K
        try simp only [Act.put, List.setIfInBounds_toArray, List.set_cons_zero, List.set_cons_succ]
        refine wpAnyH_take (i := 8) (v := ?_) (by simp only [List.getElem?_toArray, List.getElem?_cons_succ, List.getElem?_cons_zero]; rfl) (by kernel_rfl) (by kernel_rfl) (by kernel_rfl) (fun _ _ _ h => h) (Or.inl ⟨by rfl, ?_⟩) (by assumption) ?_
        rotate_left 1
        · (intro w hSw; (try dsimp only at hSw); go_simp; try with_reducible rfl)
        try simp only [Act.put, List.setIfInBounds_toArray, List.set_cons_zero, List.set_cons_succ]
        refine wpAnyH_done (by kernel_rfl) ?_ _
        refine NoPanic.normal ?_
        clear hHeld PC BA T1 T2
        obtain ⟨pc, E2⟩ := P
        dsimp only at PB2 ST ⊢
        by_cases hpc : pc = 0
        · subst hpc
          replace HP := hide (show R = barS E2 from HP.out)
          have BC := hide (bar_any ST.out.ld (by have := HQ.out; have := PB2.out; omega))
          rw [← HP.out] at BC
          go_wp2_with fail
          refine BC.out.mono ?_
          rintro r w6 ⟨rfl, hst⟩
          have ST2 := hide (ST.out.trans hst)
          clear hst BC
          go_wp2_with fail
          go_ret
          exact ⟨rfl, ST2.out⟩
        · have hpn : (pc != 0) = true := bne_iff_ne.2 hpc
          replace HP := hide (show R = (pc, E2) by rw [HP.out]; unfold andS; rw [if_neg hpc])
          clear hpc
          go_wp2_with fail
          go_ret
          rw [HP.out]
          exact ⟨rfl, ST.out⟩
end Go.Proofs.YtlobkefacnedeaaDoor
