/- The walk of marllaw11.ImapFull. -/
import Derived.Test.YtbmblofhogihdaaImAwakeW
namespace Go.Proofs.Ytbmblofhogihdaa
open Go.RowKit

theorem modU (a q : Int) (hq : 0 < q) (hq2 : q < 1000000) : ∃ k : Nat, RowKit.wrap64 ((IntKind.u64.wrap a).tmod q) = k ∧ (k : Int) < q := by
  have h0' : 0 ≤ IntKind.u64.wrap a := by simp [IntKind.wrap, IntKind.bits, IntKind.signed]; omega
  generalize IntKind.u64.wrap a = u at *
  rw [Int.tmod_eq_emod_of_nonneg h0']
  have e1 := Int.emod_nonneg u (show q ≠ 0 by omega)
  have e2 := Int.emod_lt_of_pos u hq
  exact ⟨(u % q).toNat, by rw [IntWalk.wrap64_in _ (by omega)]; omega, by omega⟩
theorem im_new' (w0 w : World) (hb : Below w0.heap.size w0 w) (n : Nat) (x : Int) (hx : x = (n : Int)) (h4 : 4 ≤ n) (h200 : n ≤ 200) :
    Calls Try.prog 8 #[.int .i64 x] w fun e w' => ∃ m, e = .returned (.tuple #[.pointer (some ⟨m, 0, none⟩), .int .i64 0]) ∧ IM w0 w' m (fresh n) [] := by
  subst hx; exact im_new w0 w hb n h4 h200
/-- So many are busy. -/
def stA (n k : Nat) : List Ent := noEnt :: (List.replicate k b0 ++ List.replicate (n - 1 - k) noEnt)
theorem stA_zero {n : Nat} (h : 1 ≤ n) : stA n 0 = fresh n := by
  unfold stA fresh
  obtain ⟨m, rfl⟩ : ∃ m, n = m + 1 := ⟨n - 1, by omega⟩
  simp [List.replicate_succ]
theorem stA_len {n k : Nat} (h : 1 ≤ n) (hk : k ≤ n - 1) : (stA n k).length = n := by unfold stA; simp; omega
theorem stA_set {n k : Nat} (hk : k < n - 1) : stA n (k + 1) = (stA n k).set (k + 1) b0 := by
  unfold stA
  rw [List.set_cons_succ, List.set_append_right _ _ (by simp), List.length_replicate, Nat.sub_self]
  obtain ⟨m, hm⟩ : ∃ m, n - 1 - k = m + 1 := ⟨n - 1 - k - 1, by omega⟩
  rw [hm, show n - 1 - (k + 1) = m by omega, List.replicate_succ' (n := k), List.append_assoc]
  rfl
theorem stA_at {n k : Nat} (hk : k < n - 1) : (stA n k)[k + 1]? = some noEnt := by
  unfold stA
  rw [List.getElem?_cons_succ, List.getElem?_append_right (by simp), List.length_replicate, Nat.sub_self]
  obtain ⟨m, hm⟩ : ∃ m, n - 1 - k = m + 1 := ⟨n - 1 - k - 1, by omega⟩
  rw [hm, List.replicate_succ]; rfl
theorem stA_busy {n k i : Nat} {x : Ent} (h : (stA n k)[i]? = some x) (h1 : 1 ≤ i) (h2 : i < k + 1) : x = b0 := by
  unfold stA at h
  obtain ⟨m, rfl⟩ : ∃ m, i = m + 1 := ⟨i - 1, by omega⟩
  rw [List.getElem?_cons_succ, List.getElem?_append_left (by simp; omega), List.getElem?_replicate, if_pos (by omega)] at h
  injection h with h
  exact h.symm
theorem countP_none {α : Type} {p : α → Bool} {l : List α} (h : ∀ x ∈ l, p x = false) : l.countP p = 0 := by
  rw [List.countP_eq_zero]; intro x hx; simp [h x hx]
theorem countP_all {α : Type} {p : α → Bool} {l : List α} (h : ∀ x ∈ l, p x = true) : l.countP p = l.length := List.countP_eq_length.2 h
theorem countP_set_one {α : Type} {p : α → Bool} {l : List α} {i : Nat} {y : α} (h : ∀ x ∈ l, p x = false) (hi : i < l.length) (hy : p y = true) : (l.set i y).countP p = 1 := by
  induction l generalizing i with
  | nil => simp at hi
  | cons x l ih =>
    cases i with
    | zero =>
      rw [List.set_cons_zero, List.countP_cons_of_pos hy, countP_none (fun z hz => h z (List.mem_cons_of_mem _ hz))]
    | succ i =>
      rw [List.set_cons_succ, List.countP_cons_of_neg (by simp [h x (List.mem_cons_self)])]
      exact ih (fun z hz => h z (List.mem_cons_of_mem _ hz)) (by simpa using hi)
/-- All busy, each with its version. -/
def stF (T : List Nat) (n : Nat) : List Ent := noEnt :: (List.range (n - 1)).map fun j => ⟨0, T.getD (j + 2) 0, true⟩

/-- The cells of a row of numbers. -/
def intsA (l : List Nat) : Array Value := (intsV l).toArray
theorem intsA_get (l : List Nat) (i : Nat) (hi : i < l.length) : (intsA l)[i]? = some (.int .i64 (l[i] : Int)) := by simp [intsA, intsV, hi]
theorem intsA_set (l : List Nat) (i : Nat) (n : Nat) : (intsA l).setIfInBounds i (.int .i64 (n : Int)) = intsA (l.set i n) := by simp [intsA, intsV, List.map_set]
theorem mk_ints (n : Nat) (hn : n ≤ 1000000) (x : Int) (hx : x = (n : Int)) (w : World) : (Instr.makeSlice 22 (.int .i64 x) (.int .i64 x)).run Try.prog w = .ok (.slice (some ⟨w.heap.size, 0, none⟩) n n) (w.alloc (.cells (intsA (List.replicate n 0)) 3)) := by
  subst hx
  rw [run_mks (P := Try.prog) (t := 22) (k := 1) (bytes := 8) (z := .int .i64 0) Try.underlying22 (by kernel_rfl) .i64 .i64 n (by omega) (by omega) w]
  rw [madeCells_zs rfl rfl]
  simp [zs, intsA, intsV]

theorem stF_zero (k : Nat) : stF (List.replicate (k + 5) 0) (k + 4) = stA (k + 4) (k + 3) := by
  unfold stF stA
  congr 1
  apply List.ext_getElem
  · simp
  · intro i h1 h2
    simp at h1
    simp only [List.getElem_map, List.getElem_range]
    rw [List.getElem_append_left (by simp; omega), List.getElem_replicate]
    simp [List.getD, List.getElem?_replicate, b0, h1]
theorem stF_at (T : List Nat) (n r : Nat) (hr : r < n - 1) : (stF T n)[r + 1]? = some ⟨0, T.getD (r + 2) 0, true⟩ := by
  unfold stF
  rw [List.getElem?_cons_succ, List.getElem?_map, List.getElem?_range hr]
  rfl
theorem stF_len (T : List Nat) (n : Nat) (hn : 1 ≤ n) : (stF T n).length = n := by unfold stF; simp; omega
theorem stF_busy {T : List Nat} {n i : Nat} {x : Ent} (h : (stF T n)[i]? = some x) (h1 : 1 ≤ i) : x.busy = true := by
  unfold stF at h
  obtain ⟨m, rfl⟩ : ∃ m, i = m + 1 := ⟨i - 1, by omega⟩
  rw [List.getElem?_cons_succ, List.getElem?_map] at h
  obtain ⟨a, _, rfl⟩ := Option.map_eq_some_iff.1 h
  rfl
theorem stF_drop_busy {T : List Nat} {n : Nat} : ∀ x ∈ (stF T n).drop 1, x.busy = true := by
  intro x hx
  unfold stF at hx
  simp only [List.drop_succ_cons, List.drop_zero, List.mem_map] at hx
  obtain ⟨a, _, rfl⟩ := hx
  rfl
theorem stF_set {T : List Nat} {n r v : Nat} (hr : r + 2 < T.length) (a : Ent) : stF (T.set (r + 2) v) n = ((stF T n).set (r + 1) a).set (r + 1) ⟨0, v, true⟩ := by
  rw [List.set_set]
  unfold stF
  rw [List.set_cons_succ]
  congr 1
  apply List.ext_getElem
  · simp
  · intro i h1 h2
    simp only [List.getElem_map, List.getElem_range, List.getElem_set]
    by_cases hi : r = i
    · subst hi
      simp [List.getD, hr]
    · rw [if_neg hi]
      simp only [List.getD]
      rw [List.getElem?_set_ne (by omega)]
theorem drop_set_succ {α : Type} (l : List α) (r : Nat) (a : α) : (l.set (r + 1) a).drop 1 = (l.drop 1).set r a := by
  cases l <;> simp
theorem im_times {w0 w : World} {m g : Nat} {L : List Ent} {T : List Nat} (h : IM w0 w m L [(g, 3, intsA T)]) (i n : Nat) : IM w0 (w.setCell ⟨g, i, none⟩ (.int .i64 (n : Int))) m L [(g, 3, intsA (T.set i n))] := by
  have := h.set (g := g) (i := i) (t := 3) (cs := intsA T) (.int .i64 (n : Int)) (by intro x hx _; simpa using hx) (by simp)
  simpa [intsA_set] using this

set_option maxRecDepth 100000 in
set_option maxHeartbeats 2000000 in
theorem full_any (x : Int) (A : Option Addr) (q c : Nat) (fs : List Int) (w : World) (hf : Sl w w.heap.size A q (fs.map (Value.int .i64))) (hq : q ≤ 9223372036854775807) :
    Calls Try.prog 3 #[.int .i64 x, .slice A q c] w fun e w' => e = .returned (.bool true) ∧ Below w.heap.size w w' := by
  obtain ⟨k, hk, hkl⟩ := modU x 197 (by omega) (by omega)
  have HF := hide hf
  clear hf
  have hr : ((k : Int) + 3 != (k : Int) + 4 - 1) = false := by simp; omega
  have k4 := fun w => mk_ints (k + 5) (by omega) ((k : Int) + 4 + 1) (by omega) w
  go_enter Try.func3, Try.ntmps3
  go_wp2_with fail
  refine (awake_any _).mono ?_
  rintro e w1 ⟨rfl, hb1⟩
  have Hb1 := hide hb1
  clear hb1
  go_wp2_with fail
  refine (im_new' w _ Hb1.out (k + 4) _ (by omega) (by omega) (by omega)).mono ?_
  rintro e w2 ⟨m, rfl, h2⟩
  rw [← stA_zero (by omega)] at h2
  have H2 := hide h2
  clear h2
  go_wp2_with fail
  refine (im_room H2.out (by rw [stA_len (by omega) (by omega)]; omega) (k + 3) (by
    show (List.replicate 0 b0 ++ List.replicate (k + 4 - 1 - 0) noEnt).countP Ent.gives = k + 3
    rw [countP_all (by intro x hx; simp at hx; subst hx; rfl)]
    simp)).mono ?_
  rintro e w3 ⟨rfl, h3⟩
  have H3 := hide h3
  clear h3 H2
  go_wp2_with fail
  go_loopw [7] (fun i wr => ∃ j : Nat, j ≤ k + 3 ∧ i = .int .i64 ((j : Int) + 2) ∧ IM w wr m (stA (k + 4) j) []) (fun i _ => k + 6 - (intOf i).toNat)
  case atStart => exact ⟨0, by omega, rfl, H3.out⟩
  case round =>
    obtain ⟨j, hj, rfl, h4⟩ := hrel
    have H4 := hide h4
    clear h4
    by_cases hlt : j < k + 3
    · go_wp2_with fail
      refine (im_alloc H4.out (j + 1) noEnt (stA_at (by omega)) (by omega) rfl (fun i x hx h1 h2 => by rw [stA_busy hx h1 h2]; rfl) (stA (k + 4) (j + 1)) (stA_set (by omega))).mono ?_
      rintro e w5 ⟨rfl, h5⟩
      have H5 := hide h5
      clear h5
      go_wp2_with fail
      go_roundw
      case rel => exact ⟨j + 1, by omega, by go_num, H5.out⟩
      case measure => simp [intOf]; omega
    · have hjk : j = k + 3 := by omega
      rw [hjk] at H4
      clear hr hjk
      go_wp2_with fail
      have h5 := H4.out.new 3 (intsA (List.replicate (k + 5) 0))
      have H5 := hide h5
      have hgm : wr.heap.size = wr.heap.size := rfl
      clear h5 hgm k4
      generalize hg : wr.heap.size = g at *
      generalize hw5 : wr.alloc (.cells (intsA (List.replicate (k + 5) 0)) 3) = w5 at *
      clear hg hw5 H4 H3 Hb1
      go_loopw [12] (fun i wr => ∃ (j : Nat) (T : List Nat), j ≤ 60 ∧ j ≤ q ∧ i = .int .i64 (j : Int) ∧ T.length = k + 5 ∧ (∀ x ∈ T, x ≤ j) ∧ IM w wr m (stF T (k + 4)) [(g, 3, intsA T)]) (fun i _ => 60 - (intOf i).toNat)
      case atStart => exact ⟨0, List.replicate (k + 5) 0, by omega, by omega, rfl, by simp, by intro x hx; simp at hx; omega, by rw [stF_zero]; exact H5.out⟩
      case round =>
        clear H5
        rename_i wr0 w5
        obtain ⟨j, T, hj60, hjq, rfl, hT, hTj, h6⟩ := hrel
        have H6 := hide h6
        have HTj := hide hTj
        clear h6 hTj
        by_cases hlt2 : j < q ∧ j < 60
        · obtain ⟨hq1, hq60⟩ := hlt2
          obtain ⟨ad, u, hA, _, hu, hcell⟩ := (Sl.below HF.out H6.out.bel).get hq1
          rw [List.getElem?_map] at hu
          have hfl : j < fs.length := by have := HF.out.len; simp at this; omega
          rw [List.getElem?_eq_getElem hfl] at hu
          simp only [Option.map_some, Option.some.injEq] at hu
          subst hu
          subst hA
          obtain ⟨r, hr2, hr3⟩ := modU fs[j] ((k : Int) + 4 - 1) (by omega) (by omega)
          have hrT : r + 2 < T.length := by omega
          have hB := H6.out.blk (g := g) (t := 3) (cs := intsA T) (by simp)
          have tc : wr.cell? ⟨g, r + 2, none⟩ = some (.int .i64 (T[r + 2] : Int)) := by rw [hB.cell, intsA_get T _ hrT]
          have tf : wr.frozen? ⟨g, r + 2, none⟩ = false := hB.frozen _
          have htb : T[r + 2] ≤ 60 := Nat.le_trans (HTj.out _ (List.getElem_mem hrT)) hj60
          have Htb := hide (show T[r + 2] ≤ j from HTj.out _ (List.getElem_mem hrT))
          have Hgd := hide (show T.getD (r + 2) 0 = T[r + 2] by simp [List.getD, hrT])
          generalize hv : T[r + 2] = v at *
          have Hv := hide hv
          clear hB hv
          go_wp2_with fail
          have h7 := im_times H6.out (r + 2) (v + 1)
          rw [show ((v + 1 : Nat) : Int) = (v : Int) + 1 by omega] at h7
          have H7 := hide h7
          clear h7 tc tf hcell
          generalize hw7 : wr.setCell ⟨g, r + 2, none⟩ (.int .i64 ((v : Int) + 1)) = w7 at *
          clear hw7 H6
          refine (im_alloc_none H7.out (fun i x hx h1 => gives_busy (stF_busy hx h1))).mono ?_
          rintro e w' ⟨rfl, rfl⟩
          go_wp2_with fail
          refine (im_free H7.out (r + 1) ⟨0, v, true⟩ (by rw [stF_at _ _ _ (by omega), Hgd.out]) (by omega) rfl (by show v < 65535; omega) _ rfl).mono ?_
          rintro e w8 ⟨rfl, h8⟩
          have H8 := hide h8
          clear h8 H7
          go_wp2_with fail
          refine (im_room H8.out (by rw [List.length_set, stF_len _ _ (by omega)]; omega) 1 (by
            rw [drop_set_succ]
            exact countP_set_one (fun x hx => gives_busy (stF_drop_busy x hx)) (by rw [List.length_drop, stF_len _ _ (by omega)]; omega) (gives_mk rfl (by show v + 1 < 65535; omega)))).mono ?_
          rintro e w9 ⟨rfl, h9⟩
          have H9 := hide h9
          clear h9 H8
          go_wp2_with fail
          refine (im_alloc H9.out (r + 1) ⟨0, v + 1, false⟩ (by rw [List.getElem?_set_self (by rw [stF_len _ _ (by omega)]; omega)]) (by omega) (gives_mk rfl (by show v + 1 < 65535; omega))
            (fun i x hx h1 h2 => by rw [List.getElem?_set_ne (by omega)] at hx; exact gives_busy (stF_busy hx h1)) (stF (T.set (r + 2) (v + 1)) (k + 4)) (stF_set hrT _)).mono ?_
          rintro e w10 ⟨rfl, h10⟩
          have H10 := hide h10
          have hB2 := h10.blk (g := g) (t := 3) (cs := intsA (T.set (r + 2) (v + 1))) (by simp)
          have tc : w10.cell? ⟨g, r + 2, none⟩ = some (.int .i64 ((v : Int) + 1)) := by
            rw [hB2.cell, intsA_get _ _ (by rw [List.length_set]; exact hrT)]; simp
          clear h10 H9 hB2
          go_wp2_with fail
          go_roundw
          case rel =>
            refine ⟨j + 1, T.set (r + 2) (v + 1), by omega, by omega, by go_num, by rw [List.length_set]; exact hT, ?_, H10.out⟩
            intro x hx
            rcases List.mem_or_eq_of_mem_set hx with hx | rfl
            · have := HTj.out x hx; omega
            · have := Htb.out; omega
          case measure => simp [intOf]; omega
        · have Hroom := hide (show ((stF T (k + 4)).drop 1).countP Ent.gives = 0 from countP_none (fun x hx => gives_busy (stF_drop_busy x hx)))
          have Hbusy := hide (show ((stF T (k + 4)).drop 1).countP Ent.busy = k + 3 by
            rw [countP_all stF_drop_busy, List.length_drop, stF_len _ _ (by omega)]; omega)
          have hfin : ((k : Int) + 3 == (k : Int) + 4 - 1) = true := by simp; omega
          by_cases hq1 : j < q
          all_goals
            go_wp2_with fail
            refine (im_room H6.out (by rw [stF_len _ _ (by omega)]; omega) 0 Hroom.out).mono ?_
            rintro e w8 ⟨rfl, h8⟩
            have H8 := hide h8
            clear h8
            go_wp2_with fail
            refine (im_busy H8.out (by rw [stF_len _ _ (by omega)]; omega)).mono ?_
            rintro e w9 ⟨A9, n9, c9, rfl, hS, hn9, h9⟩
            have hl := hS.len
            rw [intsV, List.length_map, pickI_countP, Hbusy.out] at hl
            subst hl
            have H9 := hide h9
            clear h9 hS
            go_wp2_with fail
            go_ret
            exact ⟨rfl, H9.out.bel⟩
end Go.Proofs.Ytbmblofhogihdaa
