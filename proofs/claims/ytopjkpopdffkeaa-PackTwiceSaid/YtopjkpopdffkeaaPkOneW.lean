/- The walk over marllaw13.PackOne. (Printed by gen_pkone.py.) -/
import Derived.Test.YtopjkpopdffkeaaPkAwW
import Derived.Test.YtopjkpopdffkeaaPkOneS
import Derived.Test.YtopjkpopdffkeaaInts
namespace Go.Proofs.Ytopjkpopdffkeaa
open Go.RowKit
attribute [local go_sem ↓] Go.wp_at_zero Go.wp_at_succ

/-- int(uint(a) % q). -/
def mdN (a : Int) (q : Nat) : Nat := (IntKind.u64.wrap a % (q : Int)).toNat
theorem mdN_lt (a : Int) {q : Nat} (hq : 0 < q) : mdN a q < q := by
  unfold mdN
  have h0 : 0 ≤ IntKind.u64.wrap a % (q : Int) := Int.emod_nonneg _ (by omega)
  have h1 := Int.emod_lt_of_pos (IntKind.u64.wrap a) (show (0 : Int) < (q : Int) by omega)
  omega
theorem mdN_eq (a : Int) (q : Nat) (hq : 0 < q) (hq2 : q < 1000000) : IntKind.i64.wrap ((IntKind.u64.wrap a).tmod (q : Int)) = (mdN a q : Int) := by
  have h0' : 0 ≤ IntKind.u64.wrap a := by simp [IntKind.wrap, IntKind.bits, IntKind.signed]; omega
  unfold mdN
  generalize IntKind.u64.wrap a = u at *
  rw [Int.tmod_eq_emod_of_nonneg h0']
  have e1 := Int.emod_nonneg u (show (q : Int) ≠ 0 by omega)
  have e2 := Int.emod_lt_of_pos u (show (0 : Int) < (q : Int) by omega)
  rw [IntKind.wrap_i64]
  omega
theorem mdN_w64 (a : Int) (q : Nat) (hq : 0 < q) (hq2 : q < 1000000) : RowKit.wrap64 ((IntKind.u64.wrap a).tmod (q : Int)) = (mdN a q : Int) := by
  have h0' : 0 ≤ IntKind.u64.wrap a := by simp [IntKind.wrap, IntKind.bits, IntKind.signed]; omega
  unfold mdN
  generalize IntKind.u64.wrap a = u at *
  rw [Int.tmod_eq_emod_of_nonneg h0']
  have e1 := Int.emod_nonneg u (show (q : Int) ≠ 0 by omega)
  have e2 := Int.emod_lt_of_pos u (show (0 : Int) < (q : Int) by omega)
  rw [IntWalk.wrap64_in _ (by omega)]
  omega
def upI (d n : Nat) : List Int := (List.range n).map fun i => ((i + d : Nat) : Int)
theorem upI_len (d n : Nat) : (upI d n).length = n := by simp [upI]
theorem upI_succ (d n : Nat) : upI d (n + 1) = upI d n ++ [((n + d : Nat) : Int)] := by simp [upI, List.range_succ]
theorem itemsF_n : ∀ (fs : List FI) (i : Nat), nB (itemsF i fs) = lsN fs ∧ nV (itemsF i fs) = 0
  | [], _ => ⟨rfl, rfl⟩
  | f :: fs, i => by
    obtain ⟨h1, h2⟩ := itemsF_n fs (i + 1)
    have h3 : ∀ l : List Int, nB (l.map (It.b i f)) = l.length ∧ nV (l.map (It.b i f)) = 0 := fun l => by
      induction l with
      | nil => exact ⟨rfl, rfl⟩
      | cons a l ih => exact ⟨by rw [List.map_cons, nB, ih.1]; rfl, by rw [List.map_cons, nV, ih.2]⟩
    rw [itemsF, nB_app, nV_app, h1, h2, (h3 f.ls).1, (h3 f.ls).2]
    exact ⟨rfl, rfl⟩
theorem itemsA_n (fs : List FI) (is : List Int) : nB (itemsA fs is) = lsN fs ∧ nV (itemsA fs is) = is.length := by
  have h3 : ∀ l : List Int, nB (l.map It.v) = 0 ∧ nV (l.map It.v) = l.length := fun l => by
    induction l with
    | nil => exact ⟨rfl, rfl⟩
    | cons a l ih => exact ⟨by rw [List.map_cons, nB, ih.1], by rw [List.map_cons, nV, ih.2]; rfl⟩
  unfold itemsA
  rw [nB_app, nV_app, (itemsF_n fs 0).1, (itemsF_n fs 0).2, (h3 is).1, (h3 is).2]
  omega
def oneF (a : Nat) : List FI := if a = 0 then [] else [⟨9, 0, upI 0 a⟩]
theorem oneF_ls (a : Nat) : lsN (oneF a) = a := by
  unfold oneF
  split
  · subst_vars; rfl
  · show (upI 0 a).length + 0 = a
    rw [upI_len]; rfl
theorem one_plan (a b : Nat) (s : Int) (ha : a ≤ 30) (hb : b ≤ 19) (hs : 8 ≤ s) : ∃ st, goS (actsA (oneF a) (upI 1 b)) (startS s s) = some st ∧ (st.out.length = 0 ↔ a + b = 0) ∧ (st.out.length ≤ 1 ↔ ((2 + a + b : Nat) : Int) ≤ s ∧ wordsN a b ≤ 88 ∨ a + b = 0) := by
  have h := itemsA_n (oneF a) (upI 1 b)
  rw [oneF_ls, upI_len] at h
  have hl := nBV_len (itemsA (oneF a) (upI 1 b))
  have := plan_one (files := oneF a) (inos := upI 1 b) (size := s) hs (by unfold oneF; split <;> simp) (fun f hf => by
    unfold oneF at hf
    split at hf
    · cases hf
    · rw [List.mem_singleton.1 hf]
      show (upI 0 a).length ≤ 30
      rw [upI_len]; exact ha) (by rw [h.1]; exact ha) (by rw [← hl, h.1, h.2]; omega)
  rw [h.1, h.2] at this
  exact this
set_option maxRecDepth 100000 in
set_option maxHeartbeats 4000000 in
theorem one_all (x y z : Int) (w : World) : Calls Try.prog 5 #[.int .i64 x, .int .i64 y, .int .i64 z] w fun e w' => e = .returned (.bool true) ∧ Below w.heap.size w w' := by
  have mx : wrap64 ((IntKind.u64.wrap x).tmod 31) = (mdN x 31 : Int) := mdN_w64 x 31 (by decide) (by decide)
  have my : wrap64 ((IntKind.u64.wrap y).tmod 20) = (mdN y 20 : Int) := mdN_w64 y 20 (by decide) (by decide)
  have mz : wrap64 ((IntKind.u64.wrap z).tmod 57) = (mdN z 57 : Int) := mdN_w64 z 57 (by decide) (by decide)
  have lx := mdN_lt x (show 0 < 31 by decide)
  have ly := mdN_lt y (show 0 < 20 by decide)
  have lz := mdN_lt z (show 0 < 57 by decide)
  generalize mdN x 31 = a at *
  generalize mdN y 20 = b at *
  generalize mdN z 57 = s at *
  obtain ⟨st, hst, hL0, hL1⟩ := one_plan a b ((s : Int) + 8) (by omega) (by omega) (by omega)
  obtain ⟨L, hL⟩ : ∃ L, L = st.out.length := ⟨_, rfl⟩
  rw [← hL] at hL0 hL1
  have HST := hide hst
  have HL := hide hL
  have H0 := hide hL0
  have H1 := hide hL1
  clear hst hL hL0 hL1
  have l1 := fun w x => int_lit1 w x
  have lf := fun w xs h => one_file w xs h
  go_enter Try.func5, Try.ntmps5
  go_wp2_with fail
  refine (awake13 w).mono ?_
  rintro e w1 ⟨rfl, hb⟩
  have B1 := hide hb
  clear hb
  by_cases ha : a = 0
  · have ha0 : ¬ (0 : Int) < (a : Int) := by omega
    go_wp2_with fail
    simp only [mx, my, mz]
    clear mx my mz
    have F2 : Hid (FisAt 0 0 w1 none 0 (oneF a)) := hide (by rw [ha]; exact FisAt.nil)
    have HA0 := hide ha
    clear ha ha0
    obtain ⟨w2, hw2⟩ : ∃ W, W = w1 := ⟨_, rfl⟩
    rw [← hw2] at F2 ⊢
    have B2 : Hid (Below w.heap.size w w2) := hide (by rw [hw2]; exact B1.out)
    clear hw2
    go_loopw [8, 12] (fun v y wq => ∃ (i : Nat) (A' : Option Addr) (c' : Nat), i ≤ b ∧ y = .int .i64 (i : Int) ∧ v = .slice A' i c' ∧ wq.ownsRow w2.heap.size 3 1 (.slice A' i c') i (intC (upI 1 i)) ∧ Below w2.heap.size w2 wq) (fun _ y _ => b - (intOf y).toNat)
    case atStart => exact ⟨0, none, 0, Nat.zero_le _, rfl, rfl, World.ownsRow_nil _ _ _ _, Below.refl _ _⟩
    case round =>
      obtain ⟨i, A', c', hi, rfl, rfl, hO', hB'⟩ := hrel
      have HO' := hide hO'
      have HB' := hide hB'
      clear hO' hB'
      by_cases hlt' : i < b
      · go_wp2_with (
          at_builtin
          refine wpList_app _ rfl (.tmp 58) (.tmp 61) _ rfl etyJ w2.heap.size (.slice A' i c') i _ rfl (own_bel HO'.out ((Below.refl wr.heap.size wr).alloc (Nat.le_refl _) (.cells #[.int .i64 ((i : Int) + 1)] 3))) (wr.heap.size + 1) (some ⟨wr.heap.size, 0, none⟩) 1 1 [.int .i64 ((i : Int) + 1)] rfl (one_int wr _) (by intro u hu; rw [List.mem_singleton] at hu; rw [hu]; rfl) (by omega) (Nat.le_trans HB'.out.size (by simp)) ?_
          intro A3 c3 w5 hown5 hg5 hat5
          have O5 := hide hown5
          have Q5 := hide (bel_gr (HB'.out.alloc HB'.out.size (.cells #[.int .i64 ((i : Int) + 1)] 3)) hg5 (fun g hg => (HO'.out.lt g hg).1) (Nat.le_trans HB'.out.size (by simp)))
          clear hown5 hg5 hat5)
        go_roundw
        case rel =>
          refine ⟨i + 1, A3, c3, by omega, by go_num, rfl, ?_, Q5.out⟩
          have : intC (upI 1 i) ++ [.int .i64 ((i : Int) + 1)] = intC (upI 1 (i + 1)) := by rw [upI_succ, intC_app]; rfl
          rw [← this]
          exact O5.out
        case measure => simp [intOf]; omega
      · have hib : i = b := by omega
        have HIB := hide hib
        clear hib
        go_wp2_with fail
        have hw8 : wrap64 ((s : Int) + 8) = (s : Int) + 8 := IntWalk.wrap64_in _ (by omega)
        try rw [hw8]
        have C := plan_good none A' 0 0 i c' 0 0 w2.heap.size w2.heap.size (oneF a) (upI 1 b) ((s : Int) + 8) ((s : Int) + 8) wr (F2.out.below HB'.out) (by rw [← HIB.out]; exact RwAt.of_own HO'.out) (Nat.zero_le _) HB'.out.size (by decide) (by omega) (by rw [oneF_ls]; omega) (by unfold badP; omega)
        rw [HST.out] at C
        refine C.mono ?_
        rintro e w6 ⟨hb6, B, d, rfl, -⟩
        have B6 := hide (B2.out.trans ((HB'.out.trans (hb6.mono HB'.out.size)).mono B2.out.size))
        clear hb6 C
        rw [← HL.out]
        have ha := HA0.out
        by_cases hb0 : b = 0
        · have hn0 : L = 0 := H0.out.2 (by omega)
          have hab : ((a : Int) + (b : Int) == 0) = true := beq_iff_eq.2 (by omega)
          rw [hn0]
          have c1 : 2 + (a : Int) + (b : Int) ≤ (s : Int) + 8 := by omega
          have hw : 10 + (b : Int) ≤ 88 := by omega
          clear ha hb0
          go_wp2_with fail
          go_ret
          exact ⟨rfl, B6.out⟩
        · have hn0 : ¬ L = 0 := fun h => by have := H0.out.1 h; omega
          have hn1 : ((L : Int) == 0) = false := beq_eq_false_iff_ne.2 (by omega)
          have hab : ((a : Int) + (b : Int) == 0) = false := beq_eq_false_iff_ne.2 (by omega)
          have hw : 10 + (b : Int) ≤ 88 := by omega
          by_cases c1 : 2 + (a : Int) + (b : Int) ≤ (s : Int) + 8
          · have hl1 : L ≤ 1 := H1.out.2 (.inl ⟨by omega, by unfold wordsN; rw [if_pos ha]; omega⟩)
            have hl2 : (L : Int) ≤ 1 := by omega
            clear ha hb0 HL H0 H1 HST F2
            go_wp2_with fail
            go_ret
            exact ⟨rfl, B6.out⟩
          · have hc1 : decide (2 + (a : Int) + (b : Int) ≤ (s : Int) + 8) = false := decide_eq_false c1
            have hl1 : ¬ L ≤ 1 := fun h => by rcases H1.out.1 h with h | h <;> omega
            have hl2 : ¬ (L : Int) ≤ 1 := by omega
            clear ha hb0 HL H0 H1 HST F2
            go_wp2_with fail
            go_ret
            exact ⟨(by show Ending.returned (Value.bool _) = Ending.returned (Value.bool true); simp; omega), B6.out⟩
  · have hap : (0 : Int) < (a : Int) := by omega
    go_wp2_with fail
    have hapN : 0 < a := by omega
    simp only [mx, my, mz, hapN, decide_true]
    clear mx my mz
    have K1 := hide (Blk.new w1 45 #[.int .i64 9, .int .i64 0, .slice none 0 0])
    have BX := hide (B1.out.alloc B1.out.size (.cells #[.int .i64 9, .int .i64 0, .slice none 0 0] 45))
    have SX := hide (World.size_alloc w1 (.cells #[.int .i64 9, .int .i64 0, .slice none 0 0] 45))
    obtain ⟨X, hX⟩ : ∃ X, X = w1.heap.size := ⟨_, rfl⟩
    obtain ⟨wx, hwx⟩ : ∃ W, W = w1.alloc (.cells #[.int .i64 9, .int .i64 0, .slice none 0 0] 45) := ⟨_, rfl⟩
    have XB : Hid (w.heap.size ≤ X) := hide (by rw [hX]; exact B1.out.size)
    rw [← hwx] at K1 BX SX ⊢
    rw [← hX] at K1 SX ⊢
    clear hwx hX
    go_loopw [11] (fun y wr => ∃ (j : Nat) (A : Option Addr) (c : Nat), j ≤ a ∧ y = .int .i64 (j : Int) ∧ Blk wr X 45 #[.int .i64 9, .int .i64 0, .slice A j c] ∧ wr.ownsRow wx.heap.size 3 1 (.slice A j c) j (intC (upI 0 j)) ∧ Below w.heap.size w wr ∧ wx.heap.size ≤ wr.heap.size) (fun y _ => a - (intOf y).toNat)
    case atStart => exact ⟨0, none, 0, Nat.zero_le _, rfl, K1.out, World.ownsRow_nil _ _ _ _, BX.out, Nat.le_refl _⟩
    case round =>
      obtain ⟨j, A, c, hj, rfl, hK, hO, hB, hS⟩ := hrel
      have HK := hide hK
      have HO := hide hO
      have HB := hide hB
      have HS := hide hS
      clear hB
      have k2 := hK.cell 2
      simp only [List.getElem?_toArray, List.getElem?_cons_succ, List.getElem?_cons_zero] at k2
      have kf := hK.frozen 2
      have XL := hide hK.lt
      clear hK hO hS
      by_cases hlt : j < a
      · go_wp2_with (
          at_builtin
          refine wpList_app _ rfl (.tmp 41) (.tmp 43) _ rfl etyJ wx.heap.size (.slice A j c) j _ rfl (own_bel HO.out ((Below.refl wr.heap.size wr).alloc (Nat.le_refl _) (.cells #[.int .i64 (j : Int)] 3))) (wr.heap.size + 1) (some ⟨wr.heap.size, 0, none⟩) 1 1 [.int .i64 (j : Int)] rfl (one_int wr j) (by intro u hu; rw [List.mem_singleton] at hu; rw [hu]; rfl) (by omega) (Nat.le_trans HS.out (by simp)) ?_
          intro A3 c3 w5 hown5 hg5 hat5
          have hXn : some X ≠ (Value.slice A j c).ownBlock := fun e => by have := (HO.out.lt X e.symm).1; have := SX.out; omega
          have KX5 := hide (show Blk w5 X 45 #[.int .i64 9, .int .i64 0, .slice A j c] from (hg5.block X (by have := XL.out; simp; omega) hXn).trans ((HK.out).alloc _))
          have kf5 := KX5.out.frozen 2
          have k52 := KX5.out.cell 2
          simp only [List.getElem?_toArray, List.getElem?_cons_succ, List.getElem?_cons_zero] at k52
          have O5 := hide hown5
          have Q5 := hide (bel_gr (HB.out.alloc HB.out.size (.cells #[.int .i64 (j : Int)] 3)) hg5 (fun g hg => Nat.le_trans BX.out.size (HO.out.lt g hg).1) (Nat.le_trans HB.out.size (by simp)))
          have S5 := hide (show wx.heap.size ≤ w5.heap.size from Nat.le_trans HS.out (Nat.le_trans (by simp) hg5.size))
          have AT5 := hide hat5
          clear hown5 hg5 hat5)
        go_roundw
        case rel =>
          refine ⟨j + 1, A3, c3, by omega, by go_num, KX5.out.set 2 _, ?_, Q5.out.setCell (p := ⟨X, 2, none⟩) XB.out _, by simpa [World.setCell] using S5.out⟩
          have h9 := O5.out.keep_far (p := ⟨X, 2, none⟩) (fun g hg => by
            rcases AT5.out with h | h
            · rw [h] at hg
              have := (HO.out.lt g hg).1
              have := SX.out
              show g ≠ X
              omega
            · rw [h] at hg
              injection hg with hg
              have := XL.out
              have : wr.heap.size < g := by rw [← hg]; simp
              show g ≠ X
              omega) (.slice A3 (j + 1) c3)
          have : intC (upI 0 j) ++ [.int .i64 (j : Int)] = intC (upI 0 (j + 1)) := by rw [upI_succ, intC_app]; rfl
          rwa [this] at h9
        case measure => simp [intOf]; omega
      · have hja : j = a := by omega
        have k0 := HK.out.cell 0
        have k1 := HK.out.cell 1
        simp only [List.getElem?_toArray, List.getElem?_cons_succ, List.getElem?_cons_zero] at k0 k1
        have HJA := hide hja
        clear hja
        go_wp2_with fail
        have F2 : Hid (FisAt 0 wx.heap.size (wr.alloc (.cells #[.int .i64 9, .int .i64 0, .slice A j c] 45)) (some ⟨wr.heap.size, 0, none⟩) 1 (oneF a)) := hide (by
          unfold oneF
          rw [if_neg ha]
          have hI : IntsAt 0 wx.heap.size wr A j (upI 0 a) := by rw [← HJA.out]; exact (RwAt.of_own HO.out).lo_ (Nat.zero_le _)
          have hln : (upI 0 a).length = j := by rw [upI_len, HJA.out]
          refine fis_one (f := ⟨9, 0, upI 0 a⟩) (A := A) (c := c) ?_ ?_
          · have := Blk.new wr 45 (fiV ⟨9, 0, upI 0 a⟩ A c).toArray
            unfold fiV at this ⊢
            rw [hln] at this ⊢
            exact this
          · show IntsAt 0 wx.heap.size _ A (upI 0 a).length (upI 0 a)
            rw [hln]
            exact RwAt.below hI ((Below.refl _ _).alloc (Nat.le_refl _) _))
        have B2 := hide (HB.out.alloc HB.out.size (.cells #[.int .i64 9, .int .i64 0, .slice A j c] 45))
        have SX2 := hide (show wx.heap.size ≤ (wr.alloc (.cells #[.int .i64 9, .int .i64 0, .slice A j c] 45)).heap.size by have := HS.out; simp; omega)
        generalize wr.alloc (.cells #[.int .i64 9, .int .i64 0, .slice A j c] 45) = w2 at *
        clear k0 k1 k2 kf
        go_loopw [8, 12] (fun v y wq => ∃ (i : Nat) (A' : Option Addr) (c' : Nat), i ≤ b ∧ y = .int .i64 (i : Int) ∧ v = .slice A' i c' ∧ wq.ownsRow w2.heap.size 3 1 (.slice A' i c') i (intC (upI 1 i)) ∧ Below w2.heap.size w2 wq) (fun _ y _ => b - (intOf y).toNat)
        case atStart => exact ⟨0, none, 0, Nat.zero_le _, rfl, rfl, World.ownsRow_nil _ _ _ _, Below.refl _ _⟩
        case round =>
          obtain ⟨i, A', c', hi, rfl, rfl, hO', hB'⟩ := hrel
          have HO' := hide hO'
          have HB' := hide hB'
          clear hO' hB'
          by_cases hlt' : i < b
          · go_wp2_with (
              at_builtin
              refine wpList_app _ rfl (.tmp 58) (.tmp 61) _ rfl etyJ w2.heap.size (.slice A' i c') i _ rfl (own_bel HO'.out ((Below.refl wr.heap.size wr).alloc (Nat.le_refl _) (.cells #[.int .i64 ((i : Int) + 1)] 3))) (wr.heap.size + 1) (some ⟨wr.heap.size, 0, none⟩) 1 1 [.int .i64 ((i : Int) + 1)] rfl (one_int wr _) (by intro u hu; rw [List.mem_singleton] at hu; rw [hu]; rfl) (by omega) (Nat.le_trans HB'.out.size (by simp)) ?_
              intro A3 c3 w5 hown5 hg5 hat5
              have O5 := hide hown5
              have Q5 := hide (bel_gr (HB'.out.alloc HB'.out.size (.cells #[.int .i64 ((i : Int) + 1)] 3)) hg5 (fun g hg => (HO'.out.lt g hg).1) (Nat.le_trans HB'.out.size (by simp)))
              clear hown5 hg5 hat5)
            go_roundw
            case rel =>
              refine ⟨i + 1, A3, c3, by omega, by go_num, rfl, ?_, Q5.out⟩
              have : intC (upI 1 i) ++ [.int .i64 ((i : Int) + 1)] = intC (upI 1 (i + 1)) := by rw [upI_succ, intC_app]; rfl
              rw [← this]
              exact O5.out
            case measure => simp [intOf]; omega
          · have hib : i = b := by omega
            have HIB := hide hib
            clear hib
            go_wp2_with fail
            have hw8 : wrap64 ((s : Int) + 8) = (s : Int) + 8 := IntWalk.wrap64_in _ (by omega)
            try rw [hw8]
            have C := plan_good _ A' 1 1 i c' 0 wx.heap.size w2.heap.size w2.heap.size (oneF a) (upI 1 b) ((s : Int) + 8) ((s : Int) + 8) wr (F2.out.below HB'.out) (by rw [← HIB.out]; exact RwAt.of_own HO'.out) (Nat.le_trans SX2.out HB'.out.size) HB'.out.size (by decide) (by omega) (by rw [oneF_ls]; omega) (by unfold badP; omega)
            rw [HST.out] at C
            refine C.mono ?_
            rintro e w6 ⟨hb6, B, d, rfl, -⟩
            have B6 := hide (B2.out.trans ((HB'.out.trans (hb6.mono HB'.out.size)).mono B2.out.size))
            clear hb6 C
            rw [← HL.out]
            have hn0 : ¬ L = 0 := fun h => by have := H0.out.1 h; omega
            have hn1 : ((L : Int) == 0) = false := beq_eq_false_iff_ne.2 (by omega)
            have hab : ((a : Int) + (b : Int) == 0) = false := beq_eq_false_iff_ne.2 (by omega)
            by_cases c1 : 2 + (a : Int) + (b : Int) ≤ (s : Int) + 8
            · by_cases c2 : wordsN a b ≤ 88
              · have hl1 : L ≤ 1 := H1.out.2 (.inl ⟨by omega, c2⟩)
                have hl2 : (L : Int) ≤ 1 := by omega
                have hw : 10 + (b : Int) + (4 + 2 * (a : Int)) ≤ 88 := by unfold wordsN at c2; rw [if_neg ha] at c2; omega
                clear HL H0 H1 HST F2
                go_wp2_with fail
                go_ret
                exact ⟨rfl, B6.out⟩
              · have hl1 : ¬ L ≤ 1 := fun h => by rcases H1.out.1 h with h | h <;> omega
                have hl2 : ¬ (L : Int) ≤ 1 := by omega
                have hw : ¬ 10 + (b : Int) + (4 + 2 * (a : Int)) ≤ 88 := by unfold wordsN at c2; rw [if_neg ha] at c2; omega
                clear HL H0 H1 HST F2
                go_wp2_with fail
                go_ret
                exact ⟨(by show Ending.returned (Value.bool _) = Ending.returned (Value.bool true); simp; omega), B6.out⟩
            · have hc1 : decide (2 + (a : Int) + (b : Int) ≤ (s : Int) + 8) = false := decide_eq_false c1
              have hl1 : ¬ L ≤ 1 := fun h => by rcases H1.out.1 h with h | h <;> omega
              have hl2 : ¬ (L : Int) ≤ 1 := by omega
              go_wp2_with fail
              go_ret
              exact ⟨(by show Ending.returned (Value.bool _) = Ending.returned (Value.bool true); simp; omega), B6.out⟩
end Go.Proofs.Ytopjkpopdffkeaa
