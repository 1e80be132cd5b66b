/- The walk over marllaw13.same: a piece that is the reference's. (Printed by gen_pksam.py.) -/
import Derived.Test.YtopjkpopdffkeaaPkSR
import Derived.Test.YtopjkpopdffkeaaPkRPr
import Derived.Test.YtopjkpopdffkeaaSameW
namespace Go.Proofs.Ytopjkpopdffkeaa
open Go.RowKit
attribute [local go_sem ↓] Go.wp_at_zero Go.wp_at_succ

theorem etyJK : EtyK Try.prog 23 3 (.int .i64 0) 1 8 := EtyK.mk' Try.underlying23 (by kernel_rfl) (by kernel_rfl) (by decide) (by decide)
theorem sstep_neg {files : List FI} {q : GS} {x : RI} (h : x.1 < 0) : sstep files q x = { q with is := q.is ++ [x.2] } := by
  unfold sstep
  rw [if_pos h]
theorem foldS_take {files : List FI} {l : List RI} {j : Nat} {x : RI} (h : l[j]? = some x) : (l.take (j + 1)).foldl (sstep files) gs0 = sstep files ((l.take j).foldl (sstep files) gs0) x := by
  rw [List.take_add_one, h, List.foldl_append]
  rfl
theorem fis_num2 {lo base j n : Nat} {w : World} {A : Option Addr} {fs : List FI} (h : FisAt lo base w A j fs) (e : j = n) : FisAt lo base w A n fs := e ▸ h
theorem ints_num {lo base j n : Nat} {w : World} {A : Option Addr} {l : List Int} (h : IntsAt lo base w A j l) (e : j = n) : IntsAt lo base w A n l := e ▸ h
set_option maxRecDepth 100000 in
set_option maxHeartbeats 8000000 in
theorem psame_any (A1 A2 Iw A : Option Addr) (c1 c2 k cw m c lo1 b1 lo3 b3' lo2 b2' lo b0 : Nat) (p : PcP) (a : RP) (files : List FI) (w : World)
    (hf1 : FisAt lo1 b1 w A1 p.fs.length p.fs) (hi1 : IntsAt lo3 b3' w A2 p.is.length p.is) (hI : ItAt lo2 b2' w Iw k a.2) (hF : FisAt lo b0 w A m files) (hP : PR files a p)
    (hk : k ≤ 1000) (hm : m ≤ 1000) (hpf : p.fs.length ≤ 1000) (hpi : p.is.length ≤ 1000) (hpl : ∀ f ∈ p.fs, f.ls.length ≤ 1000) (hpn : lsN p.fs ≤ 1000) :
    Calls Try.prog 13 #[.agg (pcC p.nw A1 p.fs.length c1 A2 p.is.length c2), .agg #[.bool a.1, .slice Iw k cw], .slice A m c] w fun e w' => e = .returned (.bool true) ∧ Below w.heap.size w w' := by
  have HF1 := hide hf1
  have HI1 := hide hi1
  have HI := hide hI
  have HF := hide hF
  have HP := hide hP
  have HPL := hide hpl
  have HPN := hide hpn
  have HLEN := hide (ItAt.len hI)
  obtain ⟨n1, hn1⟩ : ∃ x, x = p.fs.length := ⟨_, rfl⟩
  obtain ⟨n2, hn2⟩ : ∃ x, x = p.is.length := ⟨_, rfl⟩
  obtain ⟨nw, hnw⟩ : ∃ x, x = p.nw := ⟨_, rfl⟩
  have hanw : a.1 = nw := by rw [hnw]; exact hP.nw.symm
  rw [← hn1, ← hn2, ← hnw, hanw]
  rw [← hn1] at HF1 hpf
  rw [← hn2] at HI1 hpi
  have HN1 := hide hn1
  have HN2 := hide hn2
  have l1 := fun w x => int_lit1 w x
  have lf := fun w xs h => one_file w xs h
  clear hf1 hi1 hI hF hP hpl hpn hn1 hn2 hnw hanw
  unfold pcC
  go_enter Try.func13, Try.ntmps13
  go_upto_region 1 with fail
  obtain ⟨w1, hw1⟩ : ∃ W, W = ((w.alloc (.cells #[.bool nw, .slice A1 n1 c1, .slice A2 n2 c2] 40)).alloc (.cells #[.bool nw, .slice Iw k cw] 43)) := ⟨_, rfl⟩
  have KA : Hid (Blk w1 w.heap.size 40 #[.bool nw, .slice A1 n1 c1, .slice A2 n2 c2]) := hide (by rw [hw1]; exact (Blk.new _ _ _).alloc _)
  have KB : Hid (Blk w1 (w.heap.size + 1) 43 #[.bool nw, .slice Iw k cw]) := hide (by
    rw [hw1]
    have := Blk.new (w.alloc (.cells #[.bool nw, .slice A1 n1 c1, .slice A2 n2 c2] 40)) 43 #[.bool nw, .slice Iw k cw]
    rwa [World.size_alloc] at this)
  have B1 : Hid (Below w.heap.size w w1) := hide (by rw [hw1]; exact ((Below.refl _ _).alloc (Nat.le_refl _) _).alloc (by simp) _)
  rw [← hw1]
  clear hw1
  go_wp2_with fail
  go_loopw [7, 8, 9, 10] (fun at_ la ii ll wr => ∃ (j n cl n' c' : Nat) (Al A' : Option Addr) (rs : List (Option Addr × Nat)) (G : GS), j ≤ k ∧ at_ = .int .i64 (j : Int) ∧ G = (a.2.take j).foldl (sstep files) gs0 ∧ la = .int .i64 G.last ∧ ii = .slice A' n' c' ∧ ll = .slice Al n cl ∧
      SR w.heap.size wr Al n cl G.fs A' n' c' G.is rs ∧ Kt TS w.heap.size w1 wr ∧ n ≤ j ∧ n' ≤ j ∧ (∀ f ∈ G.fs, f.ls.length ≤ j) ∧ (0 ≤ G.last → G.fs ≠ [])) (fun at_ _ _ _ _ => k - (intOf at_).toNat)
  case atStart => exact ⟨0, 0, 0, 0, 0, none, none, [], gs0, Nat.zero_le _, rfl, rfl, rfl, rfl, rfl, SR.nil, Kt.refl _ _ _, Nat.zero_le _, Nat.zero_le _, by simp [gs0], fun h => absurd h (by decide)⟩
  case round =>
    obtain ⟨j, n, cl, n', c', Al, A', rs, G, hjk, rfl, hG, rfl, rfl, rfl, hSR, hK, hnj, hnj', hfl, hne⟩ := hrel
    have HG := hide hG
    have HS := hide hSR
    have HK := hide hK
    have HFL := hide hfl
    have HNE := hide hne
    have HB := hide (B1.out.trans (hK.below B1.out.size))
    obtain ⟨gl, hgl⟩ : ∃ x, x = G.last := ⟨_, rfl⟩
    rw [← hgl] at hne ⊢
    have HGL := hide hgl
    have y1 := (KB.out.kt hK (by decide)).cell 1
    simp only [List.getElem?_toArray, List.getElem?_cons_succ, List.getElem?_cons_zero] at y1
    clear hG hSR hK hfl hne hgl
    by_cases hlt : j < k
    · obtain ⟨b, off, x, hA, hbl, hx, z0, z1⟩ := ItAt.get (RwAt.below HI.out HB.out) hlt
      subst hA
      have HX := hide hx
      have hmem := HP.out.mem x (List.mem_of_getElem? hx)
      obtain ⟨xf, hxf⟩ : ∃ z, z = x.1 := ⟨_, rfl⟩
      obtain ⟨xn, hxn⟩ : ∃ z, z = x.2 := ⟨_, rfl⟩
      have HXE := hide (show x = (xf, xn) by rw [hxf, hxn])
      rw [← hxf] at z0 hmem
      rw [← hxn] at z1
      have HXF := hide hxf
      have HMEM := hide hmem
      clear hx hxf hxn hbl hmem
      have hjs : (j : Int) < (k : Int) := by omega
      have hj64 : IntKind.i64.wrap (j : Int) = (j : Int) := by rw [IntKind.wrap_i64]; omega
      go_upto_region 7 with fail
      obtain ⟨wb, hwb⟩ : ∃ W, W = wr.alloc (.cells #[.int .i64 xf, .int .i64 xn] 61) := ⟨_, rfl⟩
      have KX : Hid (Blk wb wr.heap.size 61 #[.int .i64 xf, .int .i64 xn]) := hide (by rw [hwb]; exact Blk.new _ _ _)
      have BA : Hid (Below wr.heap.size wr wb) := hide (by rw [hwb]; exact (Below.refl _ _).alloc (Nat.le_refl _) _)
      have SB := hide (HS.out.below BA.out)
      have KT := hide (HK.out.trans (Kt.of_below BA.out))
      have BB := hide (HB.out.trans (BA.out.mono HB.out.size))
      obtain ⟨X, hX⟩ : ∃ X, X = wr.heap.size := ⟨_, rfl⟩
      rw [← hX] at KX
      rw [← hwb, ← hX]
      clear hwb hX z0 z1 y1
      have FT := hide (foldS_take (files := files) HX.out)
      have k0 := KX.out.cell 0
      have k1 := KX.out.cell 1
      simp only [List.getElem?_toArray, List.getElem?_cons_succ, List.getElem?_cons_zero] at k0 k1
      by_cases hneg : xf < 0
      · have HST := hide (show sstep files G x = { G with is := G.is ++ [xn] } by rw [sstep_neg (by rw [← HXF.out]; exact hneg), HXE.out])
        go_wp2_with (
          at_builtin
          refine wpList_app _ rfl (.tmp 27) (.tmp 30) _ rfl etyJ w.heap.size (.slice A' n' c') n' _ rfl (own_bel SB.out.io ((Below.refl wb.heap.size wb).alloc (Nat.le_refl _) (.cells #[.int .i64 xn] 3))) (wb.heap.size + 1) (some ⟨wb.heap.size, 0, none⟩) 1 1 [.int .i64 xn] rfl (one_int wb xn) (by intro u hu; rw [List.mem_singleton] at hu; rw [hu]; rfl) (by omega) (Nat.le_trans BB.out.size (by simp)) ?_
          intro A3 c3 w3 hown hg hnew
          have GI := hide ((SB.out.below ((Below.refl wb.heap.size wb).alloc (Nat.le_refl _) (.cells #[.int .i64 xn] 3))).growI (js := G.is ++ [xn]) (m := n' + 1) (d := c3) (B := A3) (by rw [List.length_append, SB.out.ln']; rfl) hg (by rw [← intC_app]; exact hown) (by
            rcases hnew with h | h
            · rw [ob_eq, ob_eq] at h; exact .inl h
            · rw [ob_eq] at h; exact .inr ⟨_, h, Nat.le_refl _⟩))
          have K3 := hide (KT.out.trans ((Kt.of_below ((Below.refl wb.heap.size wb).alloc (Nat.le_refl _) (.cells #[.int .i64 xn] 3))).trans GI.out.2))
          clear hown hg hnew)
        go_roundw
        case rel => exact ⟨j + 1, n, cl, n' + 1, c3, Al, A3, rs, sstep files G x, by omega, by go_num, by rw [FT.out, ← HG.out], by rw [HST.out, HGL.out], rfl, rfl, by rw [HST.out]; exact GI.out.1, K3.out, by omega, by omega, by rw [HST.out]; exact fun f hf => Nat.le_succ_of_le (HFL.out f hf), by rw [HST.out]; exact HNE.out⟩
        case measure => simp [intOf]; omega
      · obtain ⟨i, hi⟩ : ∃ i : Nat, xf = (i : Int) := ⟨xf.toNat, by omega⟩
        subst hi
        have him : i < m := by
          rcases HMEM.out with h | h
          · exact absurd h hneg
          · rw [Int.toNat_natCast, HF.out.len] at h; exact h
        obtain ⟨bF, offF, f0, AF, cF, hAF, hFr, hfi, -, q0, q1, -⟩ := (HF.out.below BB.out).at him
        have BFW := hide (show bF < w.heap.size from by
          obtain ⟨b', o', -, -, -, e', hFr', -⟩ := HF.out.at him
          rw [e'] at hAF
          injection hAF with e
          injection e with e _
          subst e
          exact hFr'.2.1)
        subst hAF
        have HFI := hide hfi
        have BFL := hide hFr.2.1
        clear hfi hFr
        have his : (i : Int) < (m : Int) := by omega
        have hi64 : IntKind.i64.wrap (i : Int) = (i : Int) := by rw [IntKind.wrap_i64]; omega
        have hneg' : ¬ (i : Int) < 0 := hneg
        by_cases hsm : (i : Int) = gl
        · have hnb : ((i : Int) != gl) = false := by rw [hsm]; exact bne_self_eq_false _
          have hnf : G.fs ≠ [] := HNE.out (by rw [← HGL.out, ← hsm]; omega)
          obtain ⟨q, hq⟩ : ∃ q, n = q + 1 := ⟨n - 1, by have := SB.out.ln; have := List.length_pos_iff.2 hnf; omega⟩
          have HF1L := hide (show filesL G.last (i : Int) f0 ⟨false, G.fs, []⟩ = G.fs by unfold filesL; rw [if_pos (by rw [← HGL.out]; exact hsm.symm)])
          obtain ⟨W, hW⟩ : ∃ W, W = wb := ⟨_, rfl⟩
          obtain ⟨F1, hF1⟩ : ∃ F, F = G.fs := ⟨_, rfl⟩
          have SW : Hid (SR w.heap.size W Al (q + 1) cl F1 A' n' c' G.is rs) := hide (by rw [hW, hF1, ← hq]; exact SB.out)
          have KW : Hid (Kt TS w.heap.size w1 W) := hide (by rw [hW]; exact KT.out)
          have XW : Hid (Blk W X 61 #[.int .i64 (i : Int), .int .i64 xn]) := hide (by rw [hW]; exact KX.out)
          have FLW : Hid (∀ f ∈ F1, f.ls.length ≤ j) := hide (by rw [hF1]; exact HFL.out)
          have HF1E : Hid (filesL G.last (i : Int) f0 ⟨false, G.fs, []⟩ = F1) := hide (by rw [hF1]; exact HF1L.out)
          have QJ : q + 1 ≤ j + 1 := by omega
          rw [hq]
          clear hF1 hnf hsm
          go_upto_region 12 with fail
          rw [← hW]
          clear hW k0 k1 q0 q1 hq hnb
          have hq64 : IntKind.i64.wrap (q : Int) = (q : Int) := by rw [IntKind.wrap_i64]; omega
          obtain ⟨f1, hf1⟩ : ∃ f, F1[q]? = some f := ⟨_, List.getElem?_eq_getElem (by rw [SW.out.ln]; exact Nat.lt_succ_self q)⟩
          obtain ⟨r1, hr1⟩ : ∃ r, rs[q]? = some r := ⟨_, List.getElem?_eq_getElem (by rw [SW.out.lr]; exact Nat.lt_succ_self q)⟩
          obtain ⟨g, hAg, hbg, ⟨csg, hgb⟩, v0⟩ := SW.out.at hf1 hr1
          have HFQ := hide hf1
          have HRQ := hide hr1
          have hm1b : f1.ls.length ≤ j := FLW.out f1 (List.mem_of_getElem? hf1)
          have OWN1 := hide (SW.out.ls q f1 r1 hf1 hr1)
          obtain ⟨m1, hm1⟩ : ∃ x, x = f1.ls.length := ⟨_, rfl⟩
          rw [← hm1] at v0 hm1b OWN1
          have HM1 := hide hm1
          obtain ⟨R1, hR1⟩ : ∃ x, x = r1.1 := ⟨_, rfl⟩
          obtain ⟨R2, hR2⟩ : ∃ x, x = r1.2 := ⟨_, rfl⟩
          have HRE := hide (show r1 = (R1, R2) by rw [hR1, hR2])
          rw [← hR1, ← hR2] at v0 OWN1
          have GLT := hide hgb.lt
          have v1 := XW.out.cell 1
          simp only [List.getElem?_toArray, List.getElem?_cons_succ, List.getElem?_cons_zero] at v1
          have BWW := hide (B1.out.trans (KW.out.below B1.out.size))
          have CC2 := hide (fun (w' : World) (hb : Below W.heap.size W w') => show w'.cell? ⟨g, q * 3 + 2, none⟩ = some (.slice R1 m1 R2) ∧ w'.cell? ⟨X, 1, none⟩ = some (.int .i64 xn) from
            ⟨(hb.cell (p := ⟨g, q * 3 + 2, none⟩) GLT.out).trans v0, (hb.cell (p := ⟨X, 1, none⟩) XW.out.lt).trans v1⟩)
          clear hf1 hr1 hgb hm1 hR1 hR2 v0 v1 hbg
          subst hAg
          have hqs : (q : Int) < ((q + 1 : Nat) : Int) := by omega
          have hqs2 : (q : Int) < (q : Int) + 1 := by omega
          have s0 := CC2.out _ (Below.refl _ _).drew
          refine wp_region_noPanic ?_
          refine wp_region_last (n := 17) (S := (fun w' => w'.cell? ⟨g, q * 3 + 2, none⟩ = some (.slice R1 m1 R2) ∧ w'.cell? ⟨X, 1, none⟩ = some (.int .i64 xn))) (by kernel_rfl) (by rfl) (by kernel_rfl) ?_ (fun hHeld => ?_)
          · ((try dsimp only) <;> (first | trivial | assumption | go_keep))
          clear s0
          have BD := hide ((Below.refl W.heap.size W).drew)
          refine wpAnyH_take (i := 0) (v := ?_) (by simp only [List.getElem?_toArray, List.getElem?_cons_succ, List.getElem?_cons_zero]; rfl) (by kernel_rfl) (by kernel_rfl) (by kernel_rfl) (fun _ _ _ h => h) (Or.inl ⟨by rfl, ?_⟩) (by assumption) ?_
          rotate_left 1
          · (intro w hSw; (try dsimp only at hSw); go_simp; try with_reducible rfl)
          try simp only [Act.put, List.setIfInBounds_toArray, List.set_cons_zero, List.set_cons_succ]
          refine wpAnyH_take (i := 1) (v := ?_) (by simp only [List.getElem?_toArray, List.getElem?_cons_succ, List.getElem?_cons_zero]; rfl) (by kernel_rfl) (by kernel_rfl) (by kernel_rfl) (fun _ _ _ h => h) (Or.inl ⟨by rfl, ?_⟩) (by assumption) ?_
          rotate_left 1
          · (intro w hSw; (try dsimp only at hSw); go_simp; try with_reducible rfl)
          try simp only [Act.put, List.setIfInBounds_toArray, List.set_cons_zero, List.set_cons_succ]
          refine wpAnyH_take (i := 2) (v := ?_) (by simp only [List.getElem?_toArray, List.getElem?_cons_succ, List.getElem?_cons_zero]; rfl) (by kernel_rfl) (by kernel_rfl) (by kernel_rfl) (fun _ _ _ h => h) (Or.inl ⟨by rfl, ?_⟩) (by assumption) ?_
          rotate_left 1
          · (intro w hSw; (try dsimp only at hSw); go_simp; try with_reducible rfl)
          try simp only [Act.put, List.setIfInBounds_toArray, List.set_cons_zero, List.set_cons_succ]
          refine wpAnyH_take (i := 3) (v := ?_) (by simp only [List.getElem?_toArray, List.getElem?_cons_succ, List.getElem?_cons_zero]; rfl) (by kernel_rfl) (by kernel_rfl) (by kernel_rfl) (fun _ _ _ h => h) (Or.inl ⟨by rfl, ?_⟩) (by assumption) ?_
          rotate_left 1
          · (intro w hSw; (try dsimp only at hSw); go_simp; try with_reducible rfl)
          try simp only [Act.put, List.setIfInBounds_toArray, List.set_cons_zero, List.set_cons_succ]
          refine wpAnyH_take (i := 4) (v := ?_) (by simp only [List.getElem?_toArray, List.getElem?_cons_succ, List.getElem?_cons_zero]; rfl) (by kernel_rfl) (by kernel_rfl) (by kernel_rfl) (fun _ _ _ h => h) (Or.inl ⟨by rfl, ?_⟩) (by assumption) ?_
          rotate_left 1
          · (intro w hSw; (try dsimp only at hSw); go_simp; try with_reducible rfl)
          try simp only [Act.put, List.setIfInBounds_toArray, List.set_cons_zero, List.set_cons_succ]
          refine wpAnyH_take (i := 5) (v := ?_) (by simp only [List.getElem?_toArray, List.getElem?_cons_succ, List.getElem?_cons_zero]; rfl) (by kernel_rfl) (by kernel_rfl) (by kernel_rfl) (fun _ _ _ h => h) (Or.inl ⟨by rfl, ?_⟩) (by assumption) ?_
          rotate_left 1
          · (intro w hSw; (try dsimp only at hSw); go_simp; try with_reducible rfl)
          try simp only [Act.put, List.setIfInBounds_toArray, List.set_cons_zero, List.set_cons_succ]
          refine wpAnyH_take (i := 6) (v := ?_) (by simp only [List.getElem?_toArray, List.getElem?_cons_succ, List.getElem?_cons_zero]; rfl) (by kernel_rfl) (by kernel_rfl) (by kernel_rfl) (fun _ _ _ h => h) (Or.inl ⟨by rfl, ?_⟩) (by assumption) ?_
          rotate_left 1
          · (intro w hSw; (try dsimp only at hSw); go_simp; try with_reducible rfl)
          try simp only [Act.put, List.setIfInBounds_toArray, List.set_cons_zero, List.set_cons_succ]
          refine wpAnyH_take (i := 7) (v := ?_) (by simp only [List.getElem?_toArray, List.getElem?_cons_succ, List.getElem?_cons_zero]; rfl) (by kernel_rfl) (by kernel_rfl) (by kernel_rfl) (fun _ _ _ h => h) (Or.inl ⟨by rfl, ?_⟩) (by assumption) ?_
          rotate_left 1
          · (intro w hSw; (try dsimp only at hSw); go_simp; try with_reducible rfl)
          try simp only [Act.put, List.setIfInBounds_toArray, List.set_cons_zero, List.set_cons_succ]
          refine wpAnyH_take (i := 8) (v := ?_) (by simp only [List.getElem?_toArray, List.getElem?_cons_succ, List.getElem?_cons_zero]; rfl) (by kernel_rfl) (by kernel_rfl) (by kernel_rfl) (fun _ _ _ h => h) (Or.inl ⟨by rfl, ?_⟩) (by assumption) ?_
          rotate_left 1
          · (intro w hSw; (try dsimp only at hSw); go_simp; try with_reducible rfl)
          try simp only [Act.put, List.setIfInBounds_toArray, List.set_cons_zero, List.set_cons_succ]
          refine wpAnyH_take (i := 9) (v := ?_) (by simp only [List.getElem?_toArray, List.getElem?_cons_succ, List.getElem?_cons_zero]; rfl) (by kernel_rfl) (by kernel_rfl) (by kernel_rfl) (fun _ _ _ h => h) (Or.inl ⟨by rfl, ?_⟩) (by assumption) ?_
          rotate_left 1
          · (intro w hSw; (try dsimp only at hSw); go_simp; try with_reducible rfl)
          try simp only [Act.put, List.setIfInBounds_toArray, List.set_cons_zero, List.set_cons_succ]
          refine wpAnyH_take (i := 10) (v := ?_) (by simp only [List.getElem?_toArray, List.getElem?_cons_succ, List.getElem?_cons_zero]; rfl) (by kernel_rfl) (by kernel_rfl) (by kernel_rfl) (fun _ _ _ h => h) (Or.inl ⟨by rfl, ?_⟩) (by assumption) ?_
          rotate_left 1
          · (intro w hSw; (try dsimp only at hSw); go_simp; try with_reducible rfl)
          try simp only [Act.put, List.setIfInBounds_toArray, List.set_cons_zero, List.set_cons_succ]
          refine wpAnyH_take (i := 11) (v := ?_) (by simp only [List.getElem?_toArray, List.getElem?_cons_succ, List.getElem?_cons_zero]; rfl) (by kernel_rfl) (by kernel_rfl) (by kernel_rfl) (fun _ _ _ h => h) (Or.inl ⟨by rfl, ?_⟩) (by assumption) ?_
          rotate_left 1
          · (intro w hSw; (try dsimp only at hSw); go_simp; try with_reducible rfl)
          try simp only [Act.put, List.setIfInBounds_toArray, List.set_cons_zero, List.set_cons_succ]
          refine wpAnyH_take (i := 12) (v := ?_) (by simp only [List.getElem?_toArray, List.getElem?_cons_succ, List.getElem?_cons_zero]; rfl) (by kernel_rfl) (by kernel_rfl) (by kernel_rfl) (fun _ _ _ h => h) (Or.inl ⟨by rfl, ?_⟩) (by assumption) ?_
          rotate_left 1
          · (intro w hSw; (try dsimp only at hSw); go_simp; try with_reducible rfl)
          try simp only [Act.put, List.setIfInBounds_toArray, List.set_cons_zero, List.set_cons_succ]
          refine wpAnyH_ready (rs := [13]) (by kernel_rfl) (by simp) ?_
          refine AllReadyH.cons (by simp only [List.getElem?_toArray, List.getElem?_cons_succ, List.getElem?_cons_zero]; rfl) (fun K hK => ?_) ?_
          rotate_left 1
          · exact AllReadyH.nil
          go_simp
          refine hK.out _ _ ?_ (fun hHeld2 => ?_)
          · ((try dsimp only) <;> (exact CC2.out _ ((Below.refl _ _).alloc (Nat.le_refl _) _).drew))
          clear hHeld
          have hHeld := hHeld2
          clear hHeld2 hK K
          try simp only [Act.put, List.setIfInBounds_toArray, List.set_cons_zero, List.set_cons_succ]
          obtain ⟨w5, hw5⟩ : ∃ Z, Z = (W.alloc (.cells #[.int .i64 xn] 3)).drew := ⟨_, rfl⟩
          have BD5 : Hid (Below W.heap.size W w5) := hide (by rw [hw5]; exact ((Below.refl _ _).alloc (Nat.le_refl _) _).drew)
          have SC5 : Hid (SlC w5 (W.heap.size + 1) (some ⟨W.heap.size, 0, none⟩) 1 1 [.int .i64 xn]) := hide (by rw [hw5]; exact (slc_new W [.int .i64 xn] 3 (m := 1) (k := 1) rfl).below (Below.refl _ _).drew)
          have S5 := hide (SW.out.below BD5.out)
          have BB5 := hide (BWW.out.trans (BD5.out.mono BWW.out.size))
          have K5 := hide (KW.out.trans (Kt.of_below BD5.out))
          have X5 := hide (XW.out.below BD5.out)
          have OWN5 := hide (own_bel OWN1.out BD5.out)
          have hsz2 : W.drew.heap.size = W.heap.size := rfl
          rw [← hw5] at hHeld ⊢
          clear hw5 BD
          refine wpAnyH_ready (rs := [14]) (by kernel_rfl) (by simp) ?_
          refine AllReadyH.cons (by simp only [List.getElem?_toArray, List.getElem?_cons_succ, List.getElem?_cons_zero]; rfl) (fun K hK => ?_) ?_
          rotate_left 1
          · exact AllReadyH.nil
          refine step_appK (by rfl) (.tmp 64) (.tmp 67) _ (by rfl) etyJK w.heap.size (.slice R1 m1 R2) m1 (intC f1.ls) (by rfl) OWN5.out _ (some ⟨W.heap.size, 0, none⟩) 1 1 [.int .i64 xn] (by rfl) SC5.out (by simp [Value.oneCell']) (by omega) BB5.out.size ?_; intro A9 c9 w9 hown hg hnew; have GL := hide (S5.out.growL HFQ.out HRQ.out (B := A9) (m := m1 + 1) (d := c9) (x := xn) (w' := w9) (by rw [← HM1.out]) (by rw [HRE.out]; rw [ob_eq] at hg; exact hg) (by rw [← intC_app]; exact hown) (by rw [HRE.out]; exact hnew.elim (fun h => .inl (by rw [ob_eq, ob_eq] at h; exact h)) (fun h => .inr ⟨_, (by rw [ob_eq] at h; exact h), Nat.le_refl _⟩))); clear hown hg hnew; have X9 := hide (X5.out.kt GL.out.choose_spec.2.2.2.2.2.1 (by decide))
          refine hK.out _ _ ?_ (fun hHeld2 => ?_)
          · ((try dsimp only) <;> (exact ⟨by have h9 := GL.out.choose_spec; have e9 := h9.1; injection e9 with e9; injection e9 with e9 _; have h10 := h9.2.2.2.2.1; rw [← e9, ← HM1.out, HRE.out] at h10; exact h10, X9.out.cell 1⟩))
          clear hHeld
          have hHeld := hHeld2
          clear hHeld2 hK K
          try simp only [Act.put, List.setIfInBounds_toArray, List.set_cons_zero, List.set_cons_succ]
          obtain ⟨g9, hA9, hb9, -, ⟨cs9, hgb9⟩, hc9, hk9, hk10, hS9⟩ := GL.out
          injection hA9 with hA9
          injection hA9 with hA9 _
          subst hA9
          have f9 := hgb9.frozen (q * 3 + 2)
          have S9 := hide hS9
          have K9 := hide (K5.out.trans (hk9.trans hk10))
          clear GL hgb9 hc9 hk9 hk10 hS9 hb9
          refine wpAnyH_take (i := 15) (v := ?_) (by simp only [List.getElem?_toArray, List.getElem?_cons_succ, List.getElem?_cons_zero]; rfl) (by kernel_rfl) (by kernel_rfl) (by kernel_rfl) (fun _ _ _ h => h) (Or.inl ⟨by rfl, ?_⟩) (by assumption) ?_
          rotate_left 1
          · (intro w hSw; (try dsimp only at hSw); go_simp; try with_reducible rfl)
          try simp only [Act.put, List.setIfInBounds_toArray, List.set_cons_zero, List.set_cons_succ]
          refine wpAnyH_take (i := 16) (v := ?_) (by simp only [List.getElem?_toArray, List.getElem?_cons_succ, List.getElem?_cons_zero]; rfl) (by kernel_rfl) (by kernel_rfl) (by kernel_rfl) (fun _ _ _ h => h) (Or.inl ⟨by rfl, ?_⟩) (by assumption) ?_
          rotate_left 1
          · (intro w hSw; (try dsimp only at hSw); go_simp; try with_reducible rfl)
          try simp only [Act.put, List.setIfInBounds_toArray, List.set_cons_zero, List.set_cons_succ]
          refine wpAnyH_done (by kernel_rfl) ?_ _
          refine LastQ.step (by simp only [List.getElem?_toArray, List.getElem?_cons_succ, List.getElem?_cons_zero]; rfl) (by rfl) ?_
          go_simp
          refine NoPanic.normal ?_
          have HST : Hid (sstep files G x = ⟨(i : Int), F1.set q { f1 with ls := f1.ls ++ [xn] }, G.is⟩) := hide (by
            have hl1 : lastL F1 = f1 := by
              have := lastL_at SW.out.ln
              rw [HFQ.out] at this
              exact (Option.some.inj this).symm
            rw [HXE.out, sstep_b (by omega) (by rw [Int.toNat_natCast]; exact HFI.out), HF1E.out, hl1, SW.out.ln, Nat.add_sub_cancel])
          clear f9 hHeld
          go_wp2_with fail
          go_roundw
          case rel =>
            refine ⟨j + 1, q + 1, cl, n', c', some ⟨g, 0, none⟩, A', rs.set q (A9, c9), sstep files G x, by omega, by go_num, by rw [FT.out, ← HG.out], by rw [HST.out], rfl, rfl, by rw [HST.out]; exact S9.out, K9.out, QJ, by omega, ?_, ?_⟩
            · rw [HST.out]
              intro f hf
              rcases List.mem_or_eq_of_mem_set hf with hf | hf
              · exact Nat.le_succ_of_le (FLW.out f hf)
              · rw [hf]; show (f1.ls ++ [xn]).length ≤ _; rw [List.length_append, ← HM1.out]; simp; omega
            · rw [HST.out]
              intro _ e
              have := congrArg List.length e
              rw [List.length_set, SW.out.ln] at this
              simp at this
          case measure => simp [intOf]; omega
        · have hnb : ((i : Int) != gl) = true := bne_iff_ne.2 hsm
          have S10 := hide (show wb.drew.cell? ⟨X, 0, none⟩ = some (.int .i64 (i : Int)) ∧ wb.drew.cell? ⟨bF, offF + i * 3, none⟩ = some (.int .i64 f0.ino) ∧ wb.drew.cell? ⟨bF, offF + i * 3 + 1, none⟩ = some (.int .i64 f0.ver) from ⟨k0, q0, q1⟩)
          have CC := hide (fun (w' : World) (hb : Below wb.heap.size wb w') => show w'.cell? ⟨X, 0, none⟩ = some (.int .i64 (i : Int)) ∧ w'.cell? ⟨bF, offF + i * 3, none⟩ = some (.int .i64 f0.ino) ∧ w'.cell? ⟨bF, offF + i * 3 + 1, none⟩ = some (.int .i64 f0.ver) from
            ⟨(hb.cell (p := ⟨X, 0, none⟩) KX.out.lt).trans k0, (hb.cell (p := ⟨bF, offF + i * 3, none⟩) BFL.out).trans q0, (hb.cell (p := ⟨bF, offF + i * 3 + 1, none⟩) BFL.out).trans q1⟩)
          have HF1L := hide (show filesL G.last (i : Int) f0 ⟨false, G.fs, []⟩ = G.fs ++ [⟨f0.ino, f0.ver, []⟩] by unfold filesL; rw [if_neg (by rw [← HGL.out]; exact fun e => hsm e.symm)])
          clear q0 q1 k1 hsm
          go_wp2_with fail
          clear k0
          have s0 := S10.out
          refine wp_region_noPanic ?_
          refine wp_region_held_drew (S := (fun w' => w'.cell? ⟨X, 0, none⟩ = some (.int .i64 (i : Int)) ∧ w'.cell? ⟨bF, offF + i * 3, none⟩ = some (.int .i64 f0.ino) ∧ w'.cell? ⟨bF, offF + i * 3 + 1, none⟩ = some (.int .i64 f0.ver))) (by kernel_rfl) ?_ (fun hHeld => ?_)
          · ((try dsimp only) <;> (first | trivial | assumption | go_keep))
          clear s0
          refine wpAnyH_take (i := 0) (v := ?_) (by simp only [List.getElem?_toArray, List.getElem?_cons_succ, List.getElem?_cons_zero]; rfl) (by kernel_rfl) (by kernel_rfl) (by kernel_rfl) (fun _ _ _ h => h) (Or.inl ⟨by rfl, ?_⟩) (by assumption) ?_
          rotate_left 1
          · (intro w hSw; (try dsimp only at hSw); go_simp; try with_reducible rfl)
          try simp only [Act.put, List.setIfInBounds_toArray, List.set_cons_zero, List.set_cons_succ]
          refine wpAnyH_take (i := 1) (v := ?_) (by simp only [List.getElem?_toArray, List.getElem?_cons_succ, List.getElem?_cons_zero]; rfl) (by kernel_rfl) (by kernel_rfl) (by kernel_rfl) (fun _ _ _ h => h) (Or.inl ⟨by rfl, ?_⟩) (by assumption) ?_
          rotate_left 1
          · (intro w hSw; (try dsimp only at hSw); go_simp; try with_reducible rfl)
          try simp only [Act.put, List.setIfInBounds_toArray, List.set_cons_zero, List.set_cons_succ]
          refine wpAnyH_take (i := 2) (v := ?_) (by simp only [List.getElem?_toArray, List.getElem?_cons_succ, List.getElem?_cons_zero]; rfl) (by kernel_rfl) (by kernel_rfl) (by kernel_rfl) (fun _ _ _ h => h) (Or.inl ⟨by rfl, ?_⟩) (by assumption) ?_
          rotate_left 1
          · (intro w hSw; (try dsimp only at hSw); go_simp; try with_reducible rfl)
          try simp only [Act.put, List.setIfInBounds_toArray, List.set_cons_zero, List.set_cons_succ]
          refine wpAnyH_take (i := 3) (v := ?_) (by simp only [List.getElem?_toArray, List.getElem?_cons_succ, List.getElem?_cons_zero]; rfl) (by kernel_rfl) (by kernel_rfl) (by kernel_rfl) (fun _ _ _ h => h) (Or.inl ⟨by rfl, ?_⟩) (by assumption) ?_
          rotate_left 1
          · (intro w hSw; (try dsimp only at hSw); go_simp; try with_reducible rfl)
          try simp only [Act.put, List.setIfInBounds_toArray, List.set_cons_zero, List.set_cons_succ]
          refine wpAnyH_take (i := 4) (v := ?_) (by simp only [List.getElem?_toArray, List.getElem?_cons_succ, List.getElem?_cons_zero]; rfl) (by kernel_rfl) (by kernel_rfl) (by kernel_rfl) (fun _ _ _ h => h) (Or.inl ⟨by rfl, ?_⟩) (by assumption) ?_
          rotate_left 1
          · (intro w hSw; (try dsimp only at hSw); go_simp; try with_reducible rfl)
          try simp only [Act.put, List.setIfInBounds_toArray, List.set_cons_zero, List.set_cons_succ]
          refine wpAnyH_take (i := 5) (v := ?_) (by simp only [List.getElem?_toArray, List.getElem?_cons_succ, List.getElem?_cons_zero]; rfl) (by kernel_rfl) (by kernel_rfl) (by kernel_rfl) (fun _ _ _ h => h) (Or.inl ⟨by rfl, ?_⟩) (by assumption) ?_
          rotate_left 1
          · (intro w hSw; (try dsimp only at hSw); go_simp; try with_reducible rfl)
          try simp only [Act.put, List.setIfInBounds_toArray, List.set_cons_zero, List.set_cons_succ]
          refine wpAnyH_take (i := 6) (v := ?_) (by simp only [List.getElem?_toArray, List.getElem?_cons_succ, List.getElem?_cons_zero]; rfl) (by kernel_rfl) (by kernel_rfl) (by kernel_rfl) (fun _ _ _ h => h) (Or.inl ⟨by rfl, ?_⟩) (by assumption) ?_
          rotate_left 1
          · (intro w hSw; (try dsimp only at hSw); go_simp; try with_reducible rfl)
          try simp only [Act.put, List.setIfInBounds_toArray, List.set_cons_zero, List.set_cons_succ]
          refine wpAnyH_take (i := 7) (v := ?_) (by simp only [List.getElem?_toArray, List.getElem?_cons_succ, List.getElem?_cons_zero]; rfl) (by kernel_rfl) (by kernel_rfl) (by kernel_rfl) (fun _ _ _ h => h) (Or.inl ⟨by rfl, ?_⟩) (by assumption) ?_
          rotate_left 1
          · (intro w hSw; (try dsimp only at hSw); go_simp; try with_reducible rfl)
          try simp only [Act.put, List.setIfInBounds_toArray, List.set_cons_zero, List.set_cons_succ]
          refine wpAnyH_take (i := 8) (v := ?_) (by simp only [List.getElem?_toArray, List.getElem?_cons_succ, List.getElem?_cons_zero]; rfl) (by kernel_rfl) (by kernel_rfl) (by kernel_rfl) (fun _ _ _ h => h) (Or.inl ⟨by rfl, ?_⟩) (by assumption) ?_
          rotate_left 1
          · (intro w hSw; (try dsimp only at hSw); go_simp; try with_reducible rfl)
          try simp only [Act.put, List.setIfInBounds_toArray, List.set_cons_zero, List.set_cons_succ]
          refine wpAnyH_take (i := 9) (v := ?_) (by simp only [List.getElem?_toArray, List.getElem?_cons_succ, List.getElem?_cons_zero]; rfl) (by kernel_rfl) (by kernel_rfl) (by kernel_rfl) (fun _ _ _ h => h) (Or.inl ⟨by rfl, ?_⟩) (by assumption) ?_
          rotate_left 1
          · (intro w hSw; (try dsimp only at hSw); go_simp; try with_reducible rfl)
          try simp only [Act.put, List.setIfInBounds_toArray, List.set_cons_zero, List.set_cons_succ]
          refine wpAnyH_take (i := 10) (v := ?_) (by simp only [List.getElem?_toArray, List.getElem?_cons_succ, List.getElem?_cons_zero]; rfl) (by kernel_rfl) (by kernel_rfl) (by kernel_rfl) (fun _ _ _ h => h) (Or.inl ⟨by rfl, ?_⟩) (by assumption) ?_
          rotate_left 1
          · (intro w hSw; (try dsimp only at hSw); go_simp; try with_reducible rfl)
          try simp only [Act.put, List.setIfInBounds_toArray, List.set_cons_zero, List.set_cons_succ]
          refine wpAnyH_take (i := 11) (v := ?_) (by simp only [List.getElem?_toArray, List.getElem?_cons_succ, List.getElem?_cons_zero]; rfl) (by kernel_rfl) (by kernel_rfl) (by kernel_rfl) (fun _ _ _ h => h) (Or.inl ⟨by rfl, ?_⟩) (by assumption) ?_
          rotate_left 1
          · (intro w hSw; (try dsimp only at hSw); go_simp; try with_reducible rfl)
          try simp only [Act.put, List.setIfInBounds_toArray, List.set_cons_zero, List.set_cons_succ]
          refine wpAnyH_take (i := 12) (v := ?_) (by simp only [List.getElem?_toArray, List.getElem?_cons_succ, List.getElem?_cons_zero]; rfl) (by kernel_rfl) (by kernel_rfl) (by kernel_rfl) (fun _ _ _ h => h) (Or.inl ⟨by rfl, ?_⟩) (by assumption) ?_
          rotate_left 1
          · (intro w hSw; (try dsimp only at hSw); go_simp; try with_reducible rfl)
          try simp only [Act.put, List.setIfInBounds_toArray, List.set_cons_zero, List.set_cons_succ]
          refine wpAnyH_take (i := 13) (v := ?_) (by simp only [List.getElem?_toArray, List.getElem?_cons_succ, List.getElem?_cons_zero]; rfl) (by kernel_rfl) (by kernel_rfl) (by kernel_rfl) (fun _ _ _ h => h) (Or.inl ⟨by rfl, ?_⟩) (by assumption) ?_
          rotate_left 1
          · (intro w hSw; (try dsimp only at hSw); go_simp; try with_reducible rfl)
          try simp only [Act.put, List.setIfInBounds_toArray, List.set_cons_zero, List.set_cons_succ]
          have BD := hide ((Below.refl wb.heap.size wb).drew)
          refine wpAnyH_ready (rs := [14]) (by kernel_rfl) (by simp) ?_
          refine AllReadyH.cons (by simp only [List.getElem?_toArray, List.getElem?_cons_succ, List.getElem?_cons_zero]; rfl) (fun K hK => ?_) ?_
          rotate_left 1
          · exact AllReadyH.nil
          go_simp
          refine hK.out _ _ ?_ (fun hHeld2 => ?_)
          · ((try dsimp only) <;> (exact CC.out _ ((Below.refl _ _).alloc (Nat.le_refl _) _).drew))
          clear hHeld
          have hHeld := hHeld2
          clear hHeld2 hK K
          try simp only [Act.put, List.setIfInBounds_toArray, List.set_cons_zero, List.set_cons_succ]
          obtain ⟨w5, hw5⟩ : ∃ W, W = (wb.alloc (.cells #[.int .i64 f0.ino, .int .i64 f0.ver, .slice none 0 0] 45)).drew := ⟨_, rfl⟩
          have BD5 : Hid (Below wb.heap.size wb w5) := hide (by rw [hw5]; exact ((Below.refl _ _).alloc (Nat.le_refl _) _).drew)
          have SC5 : Hid (SlC w5 (wb.heap.size + 1) (some ⟨wb.heap.size, 0, none⟩) 1 3 [.int .i64 f0.ino, .int .i64 f0.ver, .slice none 0 0]) := hide (by rw [hw5]; exact (slc_new wb [.int .i64 f0.ino, .int .i64 f0.ver, .slice none 0 0] 45 (m := 1) (k := 3) rfl).below (Below.refl _ _).drew)
          have S5 := hide (SB.out.below BD5.out)
          have BB5 := hide (BB.out.trans (BD5.out.mono BB.out.size))
          have K5 := hide (KT.out.trans (Kt.of_below BD5.out))
          have X5 := hide (KX.out.below BD5.out)
          have hsz : wb.drew.heap.size = wb.heap.size := rfl
          rw [← hw5] at hHeld ⊢
          clear hw5 BD
          refine wpAnyH_ready (rs := [15]) (by kernel_rfl) (by simp) ?_
          refine AllReadyH.cons (by simp only [List.getElem?_toArray, List.getElem?_cons_succ, List.getElem?_cons_zero]; rfl) (fun K hK => ?_) ?_
          rotate_left 1
          · exact AllReadyH.nil
          refine step_appK (by rfl) (.tmp 36) (.tmp 50) _ (by rfl) etyF w.heap.size (.slice Al n cl) n (srC G.fs rs).flatten (by rfl) S5.out.row _ (some ⟨wb.heap.size, 0, none⟩) 1 1 [.int .i64 f0.ino, .int .i64 f0.ver, .slice none 0 0] (by rfl) SC5.out (by simp [Value.oneCell']) (by omega) BB5.out.size ?_; intro A8 c8 w8 hown hg hnew; have PU := hide (S5.out.push (m := n + 1) (d := c8) (B := A8) rfl hg hown); have e8 := hg.block bF (Nat.lt_of_lt_of_le BFL.out BD5.out.size) (fun e => by have h1 := (own_blk2 S5.out.row e.symm).1; have h2 := BFW.out; omega); clear hown hg hnew; have K8 := hide (K5.out.trans PU.out.2); have X8 := hide (X5.out.kt PU.out.2 (by decide)); have CB8 := hide (show w8.cell? ⟨bF, offF + i * 3, none⟩ = w5.cell? ⟨bF, offF + i * 3, none⟩ ∧ w8.cell? ⟨bF, offF + i * 3 + 1, none⟩ = w5.cell? ⟨bF, offF + i * 3 + 1, none⟩ from ⟨cell_same e8, cell_same e8⟩); clear e8
          refine hK.out _ _ ?_ (fun hHeld2 => ?_)
          · ((try dsimp only) <;> (exact ⟨X8.out.cell 0, CB8.out.1.trans hHeld.2.1, CB8.out.2.trans hHeld.2.2⟩))
          clear hHeld
          have hHeld := hHeld2
          clear hHeld2 hK K
          try simp only [Act.put, List.setIfInBounds_toArray, List.set_cons_zero, List.set_cons_succ]
          refine wpAnyH_take (i := 16) (v := ?_) (by simp only [List.getElem?_toArray, List.getElem?_cons_succ, List.getElem?_cons_zero]; rfl) (by kernel_rfl) (by kernel_rfl) (by kernel_rfl) (fun _ _ _ h => h) (Or.inl ⟨by rfl, ?_⟩) (by assumption) ?_
          rotate_left 1
          · (intro w hSw; (try dsimp only at hSw); go_simp; try with_reducible rfl)
          try simp only [Act.put, List.setIfInBounds_toArray, List.set_cons_zero, List.set_cons_succ]
          refine wpAnyH_done (by kernel_rfl) ?_ _
          refine NoPanic.normal ?_
          clear hHeld CC S10
          obtain ⟨q, hq⟩ : ∃ q, q = n := ⟨_, rfl⟩
          obtain ⟨W, hW⟩ : ∃ W, W = w8 := ⟨_, rfl⟩
          obtain ⟨F1, hF1⟩ : ∃ F, F = G.fs ++ [⟨f0.ino, f0.ver, []⟩] := ⟨_, rfl⟩
          obtain ⟨rs1, hrs1⟩ : ∃ F, F = rs ++ [((none : Option Addr), (0 : Nat))] := ⟨_, rfl⟩
          have SW : Hid (SR w.heap.size W A8 (q + 1) c8 F1 A' n' c' G.is rs1) := hide (by rw [hW, hF1, hrs1, hq]; exact PU.out.1)
          have KW : Hid (Kt TS w.heap.size w1 W) := hide (by rw [hW]; exact K8.out)
          have XW : Hid (Blk W X 61 #[.int .i64 (i : Int), .int .i64 xn]) := hide (by rw [hW]; exact X8.out)
          have FLW : Hid (∀ f ∈ F1, f.ls.length ≤ j) := hide (by
            rw [hF1]
            intro f hf
            rcases List.mem_append.1 hf with hf | hf
            · exact HFL.out f hf
            · rw [List.mem_singleton.1 hf]; exact Nat.zero_le _)
          have HF1E : Hid (filesL G.last (i : Int) f0 ⟨false, G.fs, []⟩ = F1) := hide (by rw [hF1]; exact HF1L.out)
          have QJ : q + 1 ≤ j + 1 := by omega
          have kk0 := X8.out.cell 0
          simp only [List.getElem?_toArray, List.getElem?_cons_succ, List.getElem?_cons_zero] at kk0
          rw [← hq]
          clear hF1 hrs1
          go_upto_region 12 with fail
          rw [← hW]
          clear hW kk0 hq hnb
          have hq64 : IntKind.i64.wrap (q : Int) = (q : Int) := by rw [IntKind.wrap_i64]; omega
          obtain ⟨f1, hf1⟩ : ∃ f, F1[q]? = some f := ⟨_, List.getElem?_eq_getElem (by rw [SW.out.ln]; exact Nat.lt_succ_self q)⟩
          obtain ⟨r1, hr1⟩ : ∃ r, rs1[q]? = some r := ⟨_, List.getElem?_eq_getElem (by rw [SW.out.lr]; exact Nat.lt_succ_self q)⟩
          obtain ⟨g, hAg, hbg, ⟨csg, hgb⟩, v0⟩ := SW.out.at hf1 hr1
          have HFQ := hide hf1
          have HRQ := hide hr1
          have hm1b : f1.ls.length ≤ j := FLW.out f1 (List.mem_of_getElem? hf1)
          have OWN1 := hide (SW.out.ls q f1 r1 hf1 hr1)
          obtain ⟨m1, hm1⟩ : ∃ x, x = f1.ls.length := ⟨_, rfl⟩
          rw [← hm1] at v0 hm1b OWN1
          have HM1 := hide hm1
          obtain ⟨R1, hR1⟩ : ∃ x, x = r1.1 := ⟨_, rfl⟩
          obtain ⟨R2, hR2⟩ : ∃ x, x = r1.2 := ⟨_, rfl⟩
          have HRE := hide (show r1 = (R1, R2) by rw [hR1, hR2])
          rw [← hR1, ← hR2] at v0 OWN1
          have GLT := hide hgb.lt
          have v1 := XW.out.cell 1
          simp only [List.getElem?_toArray, List.getElem?_cons_succ, List.getElem?_cons_zero] at v1
          have BWW := hide (B1.out.trans (KW.out.below B1.out.size))
          have CC2 := hide (fun (w' : World) (hb : Below W.heap.size W w') => show w'.cell? ⟨g, q * 3 + 2, none⟩ = some (.slice R1 m1 R2) ∧ w'.cell? ⟨X, 1, none⟩ = some (.int .i64 xn) from
            ⟨(hb.cell (p := ⟨g, q * 3 + 2, none⟩) GLT.out).trans v0, (hb.cell (p := ⟨X, 1, none⟩) XW.out.lt).trans v1⟩)
          clear hf1 hr1 hgb hm1 hR1 hR2 v0 v1 hbg
          subst hAg
          have hqs : (q : Int) < ((q + 1 : Nat) : Int) := by omega
          have hqs2 : (q : Int) < (q : Int) + 1 := by omega
          have s0 := CC2.out _ (Below.refl _ _).drew
          refine wp_region_noPanic ?_
          refine wp_region_last (n := 17) (S := (fun w' => w'.cell? ⟨g, q * 3 + 2, none⟩ = some (.slice R1 m1 R2) ∧ w'.cell? ⟨X, 1, none⟩ = some (.int .i64 xn))) (by kernel_rfl) (by rfl) (by kernel_rfl) ?_ (fun hHeld => ?_)
          · ((try dsimp only) <;> (first | trivial | assumption | go_keep))
          clear s0
          have BD := hide ((Below.refl W.heap.size W).drew)
          refine wpAnyH_take (i := 0) (v := ?_) (by simp only [List.getElem?_toArray, List.getElem?_cons_succ, List.getElem?_cons_zero]; rfl) (by kernel_rfl) (by kernel_rfl) (by kernel_rfl) (fun _ _ _ h => h) (Or.inl ⟨by rfl, ?_⟩) (by assumption) ?_
          rotate_left 1
          · (intro w hSw; (try dsimp only at hSw); go_simp; try with_reducible rfl)
          try simp only [Act.put, List.setIfInBounds_toArray, List.set_cons_zero, List.set_cons_succ]
          refine wpAnyH_take (i := 1) (v := ?_) (by simp only [List.getElem?_toArray, List.getElem?_cons_succ, List.getElem?_cons_zero]; rfl) (by kernel_rfl) (by kernel_rfl) (by kernel_rfl) (fun _ _ _ h => h) (Or.inl ⟨by rfl, ?_⟩) (by assumption) ?_
          rotate_left 1
          · (intro w hSw; (try dsimp only at hSw); go_simp; try with_reducible rfl)
          try simp only [Act.put, List.setIfInBounds_toArray, List.set_cons_zero, List.set_cons_succ]
          refine wpAnyH_take (i := 2) (v := ?_) (by simp only [List.getElem?_toArray, List.getElem?_cons_succ, List.getElem?_cons_zero]; rfl) (by kernel_rfl) (by kernel_rfl) (by kernel_rfl) (fun _ _ _ h => h) (Or.inl ⟨by rfl, ?_⟩) (by assumption) ?_
          rotate_left 1
          · (intro w hSw; (try dsimp only at hSw); go_simp; try with_reducible rfl)
          try simp only [Act.put, List.setIfInBounds_toArray, List.set_cons_zero, List.set_cons_succ]
          refine wpAnyH_take (i := 3) (v := ?_) (by simp only [List.getElem?_toArray, List.getElem?_cons_succ, List.getElem?_cons_zero]; rfl) (by kernel_rfl) (by kernel_rfl) (by kernel_rfl) (fun _ _ _ h => h) (Or.inl ⟨by rfl, ?_⟩) (by assumption) ?_
          rotate_left 1
          · (intro w hSw; (try dsimp only at hSw); go_simp; try with_reducible rfl)
          try simp only [Act.put, List.setIfInBounds_toArray, List.set_cons_zero, List.set_cons_succ]
          refine wpAnyH_take (i := 4) (v := ?_) (by simp only [List.getElem?_toArray, List.getElem?_cons_succ, List.getElem?_cons_zero]; rfl) (by kernel_rfl) (by kernel_rfl) (by kernel_rfl) (fun _ _ _ h => h) (Or.inl ⟨by rfl, ?_⟩) (by assumption) ?_
          rotate_left 1
          · (intro w hSw; (try dsimp only at hSw); go_simp; try with_reducible rfl)
          try simp only [Act.put, List.setIfInBounds_toArray, List.set_cons_zero, List.set_cons_succ]
          refine wpAnyH_take (i := 5) (v := ?_) (by simp only [List.getElem?_toArray, List.getElem?_cons_succ, List.getElem?_cons_zero]; rfl) (by kernel_rfl) (by kernel_rfl) (by kernel_rfl) (fun _ _ _ h => h) (Or.inl ⟨by rfl, ?_⟩) (by assumption) ?_
          rotate_left 1
          · (intro w hSw; (try dsimp only at hSw); go_simp; try with_reducible rfl)
          try simp only [Act.put, List.setIfInBounds_toArray, List.set_cons_zero, List.set_cons_succ]
          refine wpAnyH_take (i := 6) (v := ?_) (by simp only [List.getElem?_toArray, List.getElem?_cons_succ, List.getElem?_cons_zero]; rfl) (by kernel_rfl) (by kernel_rfl) (by kernel_rfl) (fun _ _ _ h => h) (Or.inl ⟨by rfl, ?_⟩) (by assumption) ?_
          rotate_left 1
          · (intro w hSw; (try dsimp only at hSw); go_simp; try with_reducible rfl)
          try simp only [Act.put, List.setIfInBounds_toArray, List.set_cons_zero, List.set_cons_succ]
          refine wpAnyH_take (i := 7) (v := ?_) (by simp only [List.getElem?_toArray, List.getElem?_cons_succ, List.getElem?_cons_zero]; rfl) (by kernel_rfl) (by kernel_rfl) (by kernel_rfl) (fun _ _ _ h => h) (Or.inl ⟨by rfl, ?_⟩) (by assumption) ?_
          rotate_left 1
          · (intro w hSw; (try dsimp only at hSw); go_simp; try with_reducible rfl)
          try simp only [Act.put, List.setIfInBounds_toArray, List.set_cons_zero, List.set_cons_succ]
          refine wpAnyH_take (i := 8) (v := ?_) (by simp only [List.getElem?_toArray, List.getElem?_cons_succ, List.getElem?_cons_zero]; rfl) (by kernel_rfl) (by kernel_rfl) (by kernel_rfl) (fun _ _ _ h => h) (Or.inl ⟨by rfl, ?_⟩) (by assumption) ?_
          rotate_left 1
          · (intro w hSw; (try dsimp only at hSw); go_simp; try with_reducible rfl)
          try simp only [Act.put, List.setIfInBounds_toArray, List.set_cons_zero, List.set_cons_succ]
          refine wpAnyH_take (i := 9) (v := ?_) (by simp only [List.getElem?_toArray, List.getElem?_cons_succ, List.getElem?_cons_zero]; rfl) (by kernel_rfl) (by kernel_rfl) (by kernel_rfl) (fun _ _ _ h => h) (Or.inl ⟨by rfl, ?_⟩) (by assumption) ?_
          rotate_left 1
          · (intro w hSw; (try dsimp only at hSw); go_simp; try with_reducible rfl)
          try simp only [Act.put, List.setIfInBounds_toArray, List.set_cons_zero, List.set_cons_succ]
          refine wpAnyH_take (i := 10) (v := ?_) (by simp only [List.getElem?_toArray, List.getElem?_cons_succ, List.getElem?_cons_zero]; rfl) (by kernel_rfl) (by kernel_rfl) (by kernel_rfl) (fun _ _ _ h => h) (Or.inl ⟨by rfl, ?_⟩) (by assumption) ?_
          rotate_left 1
          · (intro w hSw; (try dsimp only at hSw); go_simp; try with_reducible rfl)
          try simp only [Act.put, List.setIfInBounds_toArray, List.set_cons_zero, List.set_cons_succ]
          refine wpAnyH_take (i := 11) (v := ?_) (by simp only [List.getElem?_toArray, List.getElem?_cons_succ, List.getElem?_cons_zero]; rfl) (by kernel_rfl) (by kernel_rfl) (by kernel_rfl) (fun _ _ _ h => h) (Or.inl ⟨by rfl, ?_⟩) (by assumption) ?_
          rotate_left 1
          · (intro w hSw; (try dsimp only at hSw); go_simp; try with_reducible rfl)
          try simp only [Act.put, List.setIfInBounds_toArray, List.set_cons_zero, List.set_cons_succ]
          refine wpAnyH_take (i := 12) (v := ?_) (by simp only [List.getElem?_toArray, List.getElem?_cons_succ, List.getElem?_cons_zero]; rfl) (by kernel_rfl) (by kernel_rfl) (by kernel_rfl) (fun _ _ _ h => h) (Or.inl ⟨by rfl, ?_⟩) (by assumption) ?_
          rotate_left 1
          · (intro w hSw; (try dsimp only at hSw); go_simp; try with_reducible rfl)
          try simp only [Act.put, List.setIfInBounds_toArray, List.set_cons_zero, List.set_cons_succ]
          refine wpAnyH_ready (rs := [13]) (by kernel_rfl) (by simp) ?_
          refine AllReadyH.cons (by simp only [List.getElem?_toArray, List.getElem?_cons_succ, List.getElem?_cons_zero]; rfl) (fun K hK => ?_) ?_
          rotate_left 1
          · exact AllReadyH.nil
          go_simp
          refine hK.out _ _ ?_ (fun hHeld2 => ?_)
          · ((try dsimp only) <;> (exact CC2.out _ ((Below.refl _ _).alloc (Nat.le_refl _) _).drew))
          clear hHeld
          have hHeld := hHeld2
          clear hHeld2 hK K
          try simp only [Act.put, List.setIfInBounds_toArray, List.set_cons_zero, List.set_cons_succ]
          obtain ⟨w5, hw5⟩ : ∃ Z, Z = (W.alloc (.cells #[.int .i64 xn] 3)).drew := ⟨_, rfl⟩
          have BD5 : Hid (Below W.heap.size W w5) := hide (by rw [hw5]; exact ((Below.refl _ _).alloc (Nat.le_refl _) _).drew)
          have SC5 : Hid (SlC w5 (W.heap.size + 1) (some ⟨W.heap.size, 0, none⟩) 1 1 [.int .i64 xn]) := hide (by rw [hw5]; exact (slc_new W [.int .i64 xn] 3 (m := 1) (k := 1) rfl).below (Below.refl _ _).drew)
          have S5 := hide (SW.out.below BD5.out)
          have BB5 := hide (BWW.out.trans (BD5.out.mono BWW.out.size))
          have K5 := hide (KW.out.trans (Kt.of_below BD5.out))
          have X5 := hide (XW.out.below BD5.out)
          have OWN5 := hide (own_bel OWN1.out BD5.out)
          have hsz2 : W.drew.heap.size = W.heap.size := rfl
          rw [← hw5] at hHeld ⊢
          clear hw5 BD
          refine wpAnyH_ready (rs := [14]) (by kernel_rfl) (by simp) ?_
          refine AllReadyH.cons (by simp only [List.getElem?_toArray, List.getElem?_cons_succ, List.getElem?_cons_zero]; rfl) (fun K hK => ?_) ?_
          rotate_left 1
          · exact AllReadyH.nil
          refine step_appK (by rfl) (.tmp 64) (.tmp 67) _ (by rfl) etyJK w.heap.size (.slice R1 m1 R2) m1 (intC f1.ls) (by rfl) OWN5.out _ (some ⟨W.heap.size, 0, none⟩) 1 1 [.int .i64 xn] (by rfl) SC5.out (by simp [Value.oneCell']) (by omega) BB5.out.size ?_; intro A9 c9 w9 hown hg hnew; have GL := hide (S5.out.growL HFQ.out HRQ.out (B := A9) (m := m1 + 1) (d := c9) (x := xn) (w' := w9) (by rw [← HM1.out]) (by rw [HRE.out]; rw [ob_eq] at hg; exact hg) (by rw [← intC_app]; exact hown) (by rw [HRE.out]; exact hnew.elim (fun h => .inl (by rw [ob_eq, ob_eq] at h; exact h)) (fun h => .inr ⟨_, (by rw [ob_eq] at h; exact h), Nat.le_refl _⟩))); clear hown hg hnew; have X9 := hide (X5.out.kt GL.out.choose_spec.2.2.2.2.2.1 (by decide))
          refine hK.out _ _ ?_ (fun hHeld2 => ?_)
          · ((try dsimp only) <;> (exact ⟨by have h9 := GL.out.choose_spec; have e9 := h9.1; injection e9 with e9; injection e9 with e9 _; have h10 := h9.2.2.2.2.1; rw [← e9, ← HM1.out, HRE.out] at h10; exact h10, X9.out.cell 1⟩))
          clear hHeld
          have hHeld := hHeld2
          clear hHeld2 hK K
          try simp only [Act.put, List.setIfInBounds_toArray, List.set_cons_zero, List.set_cons_succ]
          obtain ⟨g9, hA9, hb9, -, ⟨cs9, hgb9⟩, hc9, hk9, hk10, hS9⟩ := GL.out
          injection hA9 with hA9
          injection hA9 with hA9 _
          subst hA9
          have f9 := hgb9.frozen (q * 3 + 2)
          have S9 := hide hS9
          have K9 := hide (K5.out.trans (hk9.trans hk10))
          clear GL hgb9 hc9 hk9 hk10 hS9 hb9
          refine wpAnyH_take (i := 15) (v := ?_) (by simp only [List.getElem?_toArray, List.getElem?_cons_succ, List.getElem?_cons_zero]; rfl) (by kernel_rfl) (by kernel_rfl) (by kernel_rfl) (fun _ _ _ h => h) (Or.inl ⟨by rfl, ?_⟩) (by assumption) ?_
          rotate_left 1
          · (intro w hSw; (try dsimp only at hSw); go_simp; try with_reducible rfl)
          try simp only [Act.put, List.setIfInBounds_toArray, List.set_cons_zero, List.set_cons_succ]
          refine wpAnyH_take (i := 16) (v := ?_) (by simp only [List.getElem?_toArray, List.getElem?_cons_succ, List.getElem?_cons_zero]; rfl) (by kernel_rfl) (by kernel_rfl) (by kernel_rfl) (fun _ _ _ h => h) (Or.inl ⟨by rfl, ?_⟩) (by assumption) ?_
          rotate_left 1
          · (intro w hSw; (try dsimp only at hSw); go_simp; try with_reducible rfl)
          try simp only [Act.put, List.setIfInBounds_toArray, List.set_cons_zero, List.set_cons_succ]
          refine wpAnyH_done (by kernel_rfl) ?_ _
          refine LastQ.step (by simp only [List.getElem?_toArray, List.getElem?_cons_succ, List.getElem?_cons_zero]; rfl) (by rfl) ?_
          go_simp
          refine NoPanic.normal ?_
          have HST : Hid (sstep files G x = ⟨(i : Int), F1.set q { f1 with ls := f1.ls ++ [xn] }, G.is⟩) := hide (by
            have hl1 : lastL F1 = f1 := by
              have := lastL_at SW.out.ln
              rw [HFQ.out] at this
              exact (Option.some.inj this).symm
            rw [HXE.out, sstep_b (by omega) (by rw [Int.toNat_natCast]; exact HFI.out), HF1E.out, hl1, SW.out.ln, Nat.add_sub_cancel])
          clear f9 hHeld
          go_wp2_with fail
          go_roundw
          case rel =>
            refine ⟨j + 1, q + 1, c8, n', c', some ⟨g, 0, none⟩, A', rs1.set q (A9, c9), sstep files G x, by omega, by go_num, by rw [FT.out, ← HG.out], by rw [HST.out], rfl, rfl, by rw [HST.out]; exact S9.out, K9.out, QJ, by omega, ?_, ?_⟩
            · rw [HST.out]
              intro f hf
              rcases List.mem_or_eq_of_mem_set hf with hf | hf
              · exact Nat.le_succ_of_le (FLW.out f hf)
              · rw [hf]; show (f1.ls ++ [xn]).length ≤ _; rw [List.length_append, ← HM1.out]; simp; omega
            · rw [HST.out]
              intro _ e
              have := congrArg List.length e
              rw [List.length_set, SW.out.ln] at this
              simp at this
          case measure => simp [intOf]; omega
    · have hjk' : j = k := by omega
      have hGe : (a.2.foldl (sstep files) gs0) = G := by rw [HG.out, hjk', ← HLEN.out, List.take_length]
      have efs := HP.out.fs
      have eis := HP.out.is
      rw [hGe] at efs eis
      have HFS := hide efs
      have HIS := hide eis
      have hnl : n = n1 := by have := HS.out.ln; rw [← efs] at this; rw [HN1.out]; exact this.symm
      have hnl' : n' = n2 := by have := HS.out.ln'; rw [← eis] at this; rw [HN2.out]; exact this.symm
      have hbk : 2 + n2 + lsN p.fs = 2 + k := by have := HP.out.blk; unfold blkN at this; rw [HN2.out, this, HLEN.out]
      have HBK := hide hbk
      have KA9 := hide (KA.out.kt HK.out (by decide))
      have KB9 := hide (KB.out.kt HK.out (by decide))
      have HF9 := hide (HF1.out.below HB.out)
      have HI9 := hide (RwAt.below HI1.out HB.out)
      have FG := hide (fis_num2 HS.out.fis hnl)
      have IG := hide (ints_num HS.out.ints hnl')
      rw [hnl, hnl']
      have SQ := hide (show decide (sameQ 0 0 0 0 0 0 0 0 0 0 p.fs G.fs p.is G.is) = true from decide_eq_true ⟨⟨rfl, rfl, rfl, rfl, rfl⟩, HFS.out, HIS.out⟩)
      have GLL := hide (show ∀ f ∈ G.fs, f.ls.length ≤ 1000000 by rw [← HFS.out]; exact fun f hf => Nat.le_trans (HPL.out f hf) (by decide))
      have CC := hide (fun (w' : World) (hb : Below wr.heap.size wr w') => show w'.cell? ⟨w.heap.size, 0, none⟩ = some (.bool nw) ∧ w'.cell? ⟨w.heap.size, 1, none⟩ = some (.slice A1 n1 c1) ∧ w'.cell? ⟨w.heap.size, 2, none⟩ = some (.slice A2 n2 c2) ∧ w'.cell? ⟨w.heap.size + 1, 0, none⟩ = some (.bool nw) ∧ w'.cell? ⟨w.heap.size + 1, 1, none⟩ = some (.slice Iw k cw) from
        ⟨(KA9.out.below hb).cell 0, (KA9.out.below hb).cell 1, (KA9.out.below hb).cell 2, (KB9.out.below hb).cell 0, (KB9.out.below hb).cell 1⟩)
      clear hjk' hGe efs eis hnl hnl' hbk
      go_wp2_with fail
      have s0 := CC.out _ (Below.refl _ _).drew
      clear y1
      refine wp_region_noPanic ?_
      refine wp_region_held_drew (S := (fun w' => w'.cell? ⟨w.heap.size, 0, none⟩ = some (.bool nw) ∧ w'.cell? ⟨w.heap.size, 1, none⟩ = some (.slice A1 n1 c1) ∧ w'.cell? ⟨w.heap.size, 2, none⟩ = some (.slice A2 n2 c2) ∧ w'.cell? ⟨w.heap.size + 1, 0, none⟩ = some (.bool nw) ∧ w'.cell? ⟨w.heap.size + 1, 1, none⟩ = some (.slice Iw k cw))) (by kernel_rfl) ?_ (fun hHeld => ?_)
      · ((try dsimp only) <;> (first | trivial | assumption | go_keep))
      clear s0
      have BD := hide ((Below.refl wr.heap.size wr).drew)
      have hnn : (nw == nw) = true := beq_self_eq_true _
      refine wpAnyH_take (i := 0) (v := ?_) (by simp only [List.getElem?_toArray, List.getElem?_cons_succ, List.getElem?_cons_zero]; rfl) (by kernel_rfl) (by kernel_rfl) (by kernel_rfl) (fun _ _ _ h => h) (Or.inl ⟨by rfl, ?_⟩) (by assumption) ?_
      rotate_left 1
      · (intro w hSw; (try dsimp only at hSw); go_simp; try with_reducible rfl)
      try simp only [Act.put, List.setIfInBounds_toArray, List.set_cons_zero, List.set_cons_succ]
      refine wpAnyH_take (i := 1) (v := ?_) (by simp only [List.getElem?_toArray, List.getElem?_cons_succ, List.getElem?_cons_zero]; rfl) (by kernel_rfl) (by kernel_rfl) (by kernel_rfl) (fun _ _ _ h => h) (Or.inl ⟨by rfl, ?_⟩) (by assumption) ?_
      rotate_left 1
      · (intro w hSw; (try dsimp only at hSw); go_simp; try with_reducible rfl)
      try simp only [Act.put, List.setIfInBounds_toArray, List.set_cons_zero, List.set_cons_succ]
      refine wpAnyH_take (i := 2) (v := ?_) (by simp only [List.getElem?_toArray, List.getElem?_cons_succ, List.getElem?_cons_zero]; rfl) (by kernel_rfl) (by kernel_rfl) (by kernel_rfl) (fun _ _ _ h => h) (Or.inl ⟨by rfl, ?_⟩) (by assumption) ?_
      rotate_left 1
      · (intro w hSw; (try dsimp only at hSw); go_simp; try with_reducible rfl)
      try simp only [Act.put, List.setIfInBounds_toArray, List.set_cons_zero, List.set_cons_succ]
      refine wpAnyH_take (i := 3) (v := ?_) (by simp only [List.getElem?_toArray, List.getElem?_cons_succ, List.getElem?_cons_zero]; rfl) (by kernel_rfl) (by kernel_rfl) (by kernel_rfl) (fun _ _ _ h => h) (Or.inl ⟨by rfl, ?_⟩) (by assumption) ?_
      rotate_left 1
      · (intro w hSw; (try dsimp only at hSw); go_simp; try with_reducible rfl)
      try simp only [Act.put, List.setIfInBounds_toArray, List.set_cons_zero, List.set_cons_succ]
      refine wpAnyH_take (i := 4) (v := ?_) (by simp only [List.getElem?_toArray, List.getElem?_cons_succ, List.getElem?_cons_zero]; rfl) (by kernel_rfl) (by kernel_rfl) (by kernel_rfl) (fun _ _ _ h => h) (Or.inl ⟨by rfl, ?_⟩) (by assumption) ?_
      rotate_left 1
      · (intro w hSw; (try dsimp only at hSw); go_simp; try with_reducible rfl)
      try simp only [Act.put, List.setIfInBounds_toArray, List.set_cons_zero, List.set_cons_succ]
      try simp only [hnn]
      refine wpAnyH_take (i := 5) (v := ?_) (by simp only [List.getElem?_toArray, List.getElem?_cons_succ, List.getElem?_cons_zero]; rfl) (by kernel_rfl) (by kernel_rfl) (by kernel_rfl) (fun _ _ _ h => h) (Or.inl ⟨by rfl, ?_⟩) (by assumption) ?_
      rotate_left 1
      · (intro w hSw; (try dsimp only at hSw); go_simp; try with_reducible rfl)
      try simp only [Act.put, List.setIfInBounds_toArray, List.set_cons_zero, List.set_cons_succ]
      refine wpAnyH_take (i := 6) (v := ?_) (by simp only [List.getElem?_toArray, List.getElem?_cons_succ, List.getElem?_cons_zero]; rfl) (by kernel_rfl) (by kernel_rfl) (by kernel_rfl) (fun _ _ _ h => h) (Or.inl ⟨by rfl, ?_⟩) (by assumption) ?_
      rotate_left 1
      · (intro w hSw; (try dsimp only at hSw); go_simp; try with_reducible rfl)
      try simp only [Act.put, List.setIfInBounds_toArray, List.set_cons_zero, List.set_cons_succ]
      refine wpAnyH_take (i := 7) (v := ?_) (by simp only [List.getElem?_toArray, List.getElem?_cons_succ, List.getElem?_cons_zero]; rfl) (by kernel_rfl) (by kernel_rfl) (by kernel_rfl) (fun _ _ _ h => h) (Or.inl ⟨by rfl, ?_⟩) (by assumption) ?_
      rotate_left 1
      · (intro w hSw; (try dsimp only at hSw); go_simp; try with_reducible rfl)
      try simp only [Act.put, List.setIfInBounds_toArray, List.set_cons_zero, List.set_cons_succ]
      refine wpAnyH_take (i := 8) (v := ?_) (by simp only [List.getElem?_toArray, List.getElem?_cons_succ, List.getElem?_cons_zero]; rfl) (by kernel_rfl) (by kernel_rfl) (by kernel_rfl) (fun _ _ _ h => h) (Or.inl ⟨by rfl, ?_⟩) (by assumption) ?_
      rotate_left 1
      · (intro w hSw; (try dsimp only at hSw); go_simp; try with_reducible rfl)
      try simp only [Act.put, List.setIfInBounds_toArray, List.set_cons_zero, List.set_cons_succ]
      refine wpAnyH_take (i := 9) (v := ?_) (by simp only [List.getElem?_toArray, List.getElem?_cons_succ, List.getElem?_cons_zero]; rfl) (by kernel_rfl) (by kernel_rfl) (by kernel_rfl) (fun _ _ _ h => h) (Or.inl ⟨by rfl, ?_⟩) (by assumption) ?_
      rotate_left 1
      · (intro w hSw; (try dsimp only at hSw); go_simp; try with_reducible rfl)
      try simp only [Act.put, List.setIfInBounds_toArray, List.set_cons_zero, List.set_cons_succ]
      refine wpAnyH_take (i := 10) (v := ?_) (by simp only [List.getElem?_toArray, List.getElem?_cons_succ, List.getElem?_cons_zero]; rfl) (by kernel_rfl) (by kernel_rfl) (by kernel_rfl) (fun _ _ _ h => h) (Or.inl ⟨by rfl, ?_⟩) (by assumption) ?_
      rotate_left 1
      · (intro w hSw; (try dsimp only at hSw); go_simp; try with_reducible rfl)
      try simp only [Act.put, List.setIfInBounds_toArray, List.set_cons_zero, List.set_cons_succ]
      refine wpAnyH_take (i := 11) (v := ?_) (by simp only [List.getElem?_toArray, List.getElem?_cons_succ, List.getElem?_cons_zero]; rfl) (by kernel_rfl) (by kernel_rfl) (by kernel_rfl) (fun _ _ _ h => h) (Or.inl ⟨by rfl, ?_⟩) (by assumption) ?_
      rotate_left 1
      · (intro w hSw; (try dsimp only at hSw); go_simp; try with_reducible rfl)
      try simp only [Act.put, List.setIfInBounds_toArray, List.set_cons_zero, List.set_cons_succ]
      refine wpAnyH_take (i := 12) (v := ?_) (by simp only [List.getElem?_toArray, List.getElem?_cons_succ, List.getElem?_cons_zero]; rfl) (by kernel_rfl) (by kernel_rfl) (by kernel_rfl) (fun _ _ _ h => h) (Or.inl ⟨by rfl, ?_⟩) (by assumption) ?_
      rotate_left 1
      · (intro w hSw; (try dsimp only at hSw); go_simp; try with_reducible rfl)
      try simp only [Act.put, List.setIfInBounds_toArray, List.set_cons_zero, List.set_cons_succ]
      refine wpAnyH_take (i := 13) (v := ?_) (by simp only [List.getElem?_toArray, List.getElem?_cons_succ, List.getElem?_cons_zero]; rfl) (by kernel_rfl) (by kernel_rfl) (by kernel_rfl) (fun _ _ _ h => h) (Or.inl ⟨by rfl, ?_⟩) (by assumption) ?_
      rotate_left 1
      · (intro w hSw; (try dsimp only at hSw); go_simp; try with_reducible rfl)
      try simp only [Act.put, List.setIfInBounds_toArray, List.set_cons_zero, List.set_cons_succ]
      refine wpAnyH_ready (rs := [14]) (by kernel_rfl) (by simp) ?_
      refine AllReadyH.cons (by simp only [List.getElem?_toArray, List.getElem?_cons_succ, List.getElem?_cons_zero]; rfl) (fun K hK => ?_) ?_
      rotate_left 1
      · exact AllReadyH.nil
      go_simp
      refine (same_any 0 0 0 0 0 0 0 0 0 0 A1 A2 Al A' n1 c1 n2 c2 n1 cl n2 c' _ _ _ _ _ _ _ _ p.fs G.fs p.is G.is _ (HF9.out.below BD.out) (FG.out.below BD.out) (RwAt.below HI9.out BD.out) (RwAt.below IG.out BD.out) (by omega) (by omega) (by omega) (by omega) (fun f hf => Nat.le_trans (HPL.out f hf) (by decide)) GLL.out).mono ?_; rintro e w7 ⟨rfl, hb⟩; rw [SQ.out]; have B7 := hide (BD.out.trans (hb.mono BD.out.size)); clear hb; go_wp2_with fail
      refine hK.out _ _ ?_ (fun hHeld2 => ?_)
      · ((try dsimp only) <;> (exact CC.out _ B7.out))
      clear hHeld
      have hHeld := hHeld2
      clear hHeld2 hK K
      try simp only [Act.put, List.setIfInBounds_toArray, List.set_cons_zero, List.set_cons_succ]
      have hw2k : IntKind.i64.wrap (2 + (k : Int)) = 2 + (k : Int) := IntWalk.i64_in _ (by omega)
      have hw2k2 : wrap64 (2 + (k : Int)) = 2 + (k : Int) := IntWalk.wrap64_in _ (by omega)
      refine wpAnyH_take (i := 15) (v := ?_) (by simp only [List.getElem?_toArray, List.getElem?_cons_succ, List.getElem?_cons_zero]; rfl) (by kernel_rfl) (by kernel_rfl) (by kernel_rfl) (fun _ _ _ h => h) (Or.inl ⟨by rfl, ?_⟩) (by assumption) ?_
      rotate_left 1
      · (intro w hSw; (try dsimp only at hSw); go_simp; try with_reducible rfl)
      try simp only [Act.put, List.setIfInBounds_toArray, List.set_cons_zero, List.set_cons_succ]
      refine wpAnyH_take (i := 16) (v := ?_) (by simp only [List.getElem?_toArray, List.getElem?_cons_succ, List.getElem?_cons_zero]; rfl) (by kernel_rfl) (by kernel_rfl) (by kernel_rfl) (fun _ _ _ h => h) (Or.inl ⟨by rfl, ?_⟩) (by assumption) ?_
      rotate_left 1
      · (intro w hSw; (try dsimp only at hSw); go_simp; try with_reducible rfl)
      try simp only [Act.put, List.setIfInBounds_toArray, List.set_cons_zero, List.set_cons_succ]
      refine wpAnyH_take (i := 17) (v := ?_) (by simp only [List.getElem?_toArray, List.getElem?_cons_succ, List.getElem?_cons_zero]; rfl) (by kernel_rfl) (by kernel_rfl) (by kernel_rfl) (fun _ _ _ h => h) (Or.inl ⟨by rfl, ?_⟩) (by assumption) ?_
      rotate_left 1
      · (intro w hSw; (try dsimp only at hSw); go_simp; try with_reducible rfl)
      try simp only [Act.put, List.setIfInBounds_toArray, List.set_cons_zero, List.set_cons_succ]
      refine wpAnyH_take (i := 19) (v := ?_) (by simp only [List.getElem?_toArray, List.getElem?_cons_succ, List.getElem?_cons_zero]; rfl) (by kernel_rfl) (by kernel_rfl) (by kernel_rfl) (fun _ _ _ h => h) (Or.inl ⟨by rfl, ?_⟩) (by assumption) ?_
      rotate_left 1
      · (intro w hSw; (try dsimp only at hSw); go_simp; try with_reducible rfl)
      try simp only [Act.put, List.setIfInBounds_toArray, List.set_cons_zero, List.set_cons_succ]
      refine wpAnyH_take (i := 20) (v := ?_) (by simp only [List.getElem?_toArray, List.getElem?_cons_succ, List.getElem?_cons_zero]; rfl) (by kernel_rfl) (by kernel_rfl) (by kernel_rfl) (fun _ _ _ h => h) (Or.inl ⟨by rfl, ?_⟩) (by assumption) ?_
      rotate_left 1
      · (intro w hSw; (try dsimp only at hSw); go_simp; try with_reducible rfl)
      try simp only [Act.put, List.setIfInBounds_toArray, List.set_cons_zero, List.set_cons_succ]
      refine wpAnyH_take (i := 21) (v := ?_) (by simp only [List.getElem?_toArray, List.getElem?_cons_succ, List.getElem?_cons_zero]; rfl) (by kernel_rfl) (by kernel_rfl) (by kernel_rfl) (fun _ _ _ h => h) (Or.inl ⟨by rfl, ?_⟩) (by assumption) ?_
      rotate_left 1
      · (intro w hSw; (try dsimp only at hSw); go_simp; try with_reducible rfl)
      try simp only [Act.put, List.setIfInBounds_toArray, List.set_cons_zero, List.set_cons_succ]
      refine wpAnyH_take (i := 22) (v := ?_) (by simp only [List.getElem?_toArray, List.getElem?_cons_succ, List.getElem?_cons_zero]; rfl) (by kernel_rfl) (by kernel_rfl) (by kernel_rfl) (fun _ _ _ h => h) (Or.inl ⟨by rfl, ?_⟩) (by assumption) ?_
      rotate_left 1
      · (intro w hSw; (try dsimp only at hSw); go_simp; try with_reducible rfl)
      try simp only [Act.put, List.setIfInBounds_toArray, List.set_cons_zero, List.set_cons_succ]
      have PB := hide (pblocks_any nw A1 A2 n1 c1 n2 c2 _ _ p.fs w7 (HF9.out.below B7.out) (by omega) (by omega) (by have := HPN.out; omega))
      refine wpAnyH_ready (rs := [18]) (by kernel_rfl) (by simp) ?_
      refine AllReadyH.cons (by simp only [List.getElem?_toArray, List.getElem?_cons_succ, List.getElem?_cons_zero]; rfl) (fun K hK => ?_) ?_
      rotate_left 1
      · exact AllReadyH.nil
      go_simp
      unfold pcC at PB; refine PB.out.mono ?_; rintro e w8 ⟨rfl, hb⟩; rw [HBK.out]; have B8 := hide (B7.out.trans (hb.mono B7.out.size)); clear hb PB; go_wp2_with fail
      refine hK.out _ _ ?_ (fun hHeld2 => ?_)
      · ((try dsimp only) <;> (exact CC.out _ B8.out))
      clear hHeld
      have hHeld := hHeld2
      clear hHeld2 hK K
      try simp only [Act.put, List.setIfInBounds_toArray, List.set_cons_zero, List.set_cons_succ]
      have hkk : (((2 + k : Nat) : Int) == 2 + (k : Int)) = true := beq_iff_eq.2 (by omega)
      refine wpAnyH_take (i := 23) (v := ?_) (by simp only [List.getElem?_toArray, List.getElem?_cons_succ, List.getElem?_cons_zero]; rfl) (by kernel_rfl) (by kernel_rfl) (by kernel_rfl) (fun _ _ _ h => h) (Or.inl ⟨by rfl, ?_⟩) (by assumption) ?_
      rotate_left 1
      · (intro w hSw; (try dsimp only at hSw); go_simp; try with_reducible rfl)
      try simp only [Act.put, List.setIfInBounds_toArray, List.set_cons_zero, List.set_cons_succ]
      try simp only [hkk]
      refine wpAnyH_take (i := 24) (v := ?_) (by simp only [List.getElem?_toArray, List.getElem?_cons_succ, List.getElem?_cons_zero]; rfl) (by kernel_rfl) (by kernel_rfl) (by kernel_rfl) (fun _ _ _ h => h) (Or.inl ⟨by rfl, ?_⟩) (by assumption) ?_
      rotate_left 1
      · (intro w hSw; (try dsimp only at hSw); go_simp; try with_reducible rfl)
      try simp only [Act.put, List.setIfInBounds_toArray, List.set_cons_zero, List.set_cons_succ]
      refine wpAnyH_take (i := 25) (v := ?_) (by simp only [List.getElem?_toArray, List.getElem?_cons_succ, List.getElem?_cons_zero]; rfl) (by kernel_rfl) (by kernel_rfl) (by kernel_rfl) (fun _ _ _ h => h) (Or.inl ⟨by rfl, ?_⟩) (by assumption) ?_
      rotate_left 1
      · (intro w hSw; (try dsimp only at hSw); go_simp; try with_reducible rfl)
      try simp only [Act.put, List.setIfInBounds_toArray, List.set_cons_zero, List.set_cons_succ]
      refine wpAnyH_done (by kernel_rfl) ?_ _
      refine NoPanic.normal ?_
      go_wp2_with fail
      go_ret
      exact ⟨rfl, HB.out.trans (B8.out.mono HB.out.size)⟩
end Go.Proofs.Ytopjkpopdffkeaa
