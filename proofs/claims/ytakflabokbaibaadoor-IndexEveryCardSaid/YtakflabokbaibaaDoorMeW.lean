/- The walks over index.Metas, and over slices.Index, Contains, Clip of integers. -/
import Derived.Test.YtakflabokbaibaaDoorPaW
set_option linter.unusedVariables false
set_option linter.unusedSimpArgs false
namespace Go.Proofs.YtakflabokbaibaaDoor
open Go.RowKit
attribute [local go_sem ↓] Go.wp_at_zero Go.wp_at_succ

theorem own_atI {w : World} {base n c k : Nat} {A : Option Addr} {l : List Int} (h : w.ownsRow base 3 1 (.slice A n c) n (intC l)) (hk : k < n) : ∃ g x, l[k]? = some x ∧ A = some ⟨g, 0, none⟩ ∧ base ≤ g ∧ g < w.heap.size ∧ w.cell? ⟨g, k, none⟩ = some (.int .i64 x) := by
  have h1 := h.1
  rw [intC_len] at h1
  have hx : l[k]? = some (l[k]'(by omega)) := List.getElem?_eq_getElem (by omega)
  obtain ⟨g, a, b, c, d⟩ := own_last h hx
  exact ⟨g, _, hx, a, b, c, d⟩
theorem own_lenI {w : World} {base n c : Nat} {A : Option Addr} {l : List Int} (h : w.ownsRow base 3 1 (.slice A n c) n (intC l)) : l.length = n := by
  have h1 := h.1
  rw [intC_len] at h1
  omega
theorem idx_no (w : World) (base n c : Nat) (A : Option Addr) (l : List Int) (h : w.ownsRow base 3 1 (.slice A n c) n (intC l)) (hn : n ≤ 100000) (x : Int) (hx : x ∉ l) :
    Calls Tryd.prog 31 #[.slice A n c, .int .i64 x] w fun e w' => e = .returned (.int .i64 (-1)) ∧ w = w' := by
  have H := hide h
  have HX := hide hx
  clear h hx
  go_enter Tryd.func31, Tryd.ntmps31
  go_wp2_with fail
  go_loop [8] (fun y => ∃ j : Nat, j ≤ n ∧ y = .int .i64 (j : Int)) (fun y => n - (intOf y).toNat)
  case atStart => exact ⟨0, Nat.zero_le _, rfl⟩
  case round =>
    obtain ⟨j, hj, rfl⟩ := hrel
    by_cases hlt : j < n
    · obtain ⟨g, y, hy, hA, -, -, hc⟩ := own_atI H.out hlt
      subst hA
      have hne : (x == y) = false := by rw [beq_eq_false_iff_ne]; rintro rfl; exact HX.out (List.mem_of_getElem? hy)
      clear hy
      go_wp2_with fail
      go_round
      case rel => exact ⟨j + 1, by omega, by go_num⟩
      case measure => simp [intOf]; omega
    · go_wp2_with fail
      go_ret
      exact ⟨rfl, rfl⟩
theorem idx_yes (w : World) (base n c : Nat) (A : Option Addr) (l : List Int) (h : w.ownsRow base 3 1 (.slice A n c) n (intC l)) (hn : n ≤ 100000) (x : Int) (hx : x ∈ l) :
    Calls Tryd.prog 31 #[.slice A n c, .int .i64 x] w fun e w' => (∃ i : Nat, i ≤ 100000 ∧ e = .returned (.int .i64 (i : Int))) ∧ w = w' := by
  have H := hide h
  have HX := hide hx
  clear h hx
  go_enter Tryd.func31, Tryd.ntmps31
  go_wp2_with fail
  go_loop [8] (fun y => ∃ j : Nat, j ≤ n ∧ y = .int .i64 (j : Int) ∧ x ∉ l.take j) (fun y => n - (intOf y).toNat)
  case atStart => exact ⟨0, Nat.zero_le _, rfl, by simp⟩
  case round =>
    obtain ⟨j, hj, rfl, hno⟩ := hrel
    have HN := hide hno
    clear hno
    by_cases hlt : j < n
    · obtain ⟨g, y, hy, hA, -, -, hc⟩ := own_atI H.out hlt
      subst hA
      have HY := hide hy
      clear hy
      by_cases hxy : x = y
      · have hne : (x == y) = true := by rw [beq_iff_eq]; exact hxy
        clear hxy
        go_wp2_with fail
        go_ret
        exact ⟨⟨j, by omega, rfl⟩, rfl⟩
      · have hne : (x == y) = false := by rw [beq_eq_false_iff_ne]; exact hxy
        have hnx : Hid (x ∉ l.take (j + 1)) := hide (by rw [List.take_add_one, HY.out]; simp; exact ⟨HN.out, hxy⟩)
        clear hxy
        go_wp2_with fail
        go_round
        case rel => exact ⟨j + 1, by omega, by go_num, hnx.out⟩
        case measure => simp [intOf]; omega
    · exfalso
      have := own_lenI H.out
      refine HN.out ?_
      rw [List.take_of_length_le (by omega)]
      exact HX.out
theorem contains_yes (w : World) (base n c : Nat) (A : Option Addr) (l : List Int) (h : w.ownsRow base 3 1 (.slice A n c) n (intC l)) (hn : n ≤ 100000) (x : Int) (hx : x ∈ l) :
    Calls Tryd.prog 23 #[.slice A n c, .int .i64 x] w fun e w' => e = .returned (.bool true) ∧ w = w' := by
  have C := hide (idx_yes w base n c A l h hn x hx)
  clear h hx
  go_enter Tryd.func23, Tryd.ntmps23
  go_wp2_with fail
  refine C.out.mono ?_
  rintro e w' ⟨⟨i, hi, rfl⟩, rfl⟩
  go_wp2_with fail
  go_ret
  exact ⟨rfl, rfl⟩
theorem contains_no (w : World) (base n c : Nat) (A : Option Addr) (l : List Int) (h : w.ownsRow base 3 1 (.slice A n c) n (intC l)) (hn : n ≤ 100000) (x : Int) (hx : x ∉ l) :
    Calls Tryd.prog 23 #[.slice A n c, .int .i64 x] w fun e w' => e = .returned (.bool false) ∧ w = w' := by
  have C := hide (idx_no w base n c A l h hn x hx)
  clear h hx
  go_enter Tryd.func23, Tryd.ntmps23
  go_wp2_with fail
  refine C.out.mono ?_
  rintro e w' ⟨rfl, rfl⟩
  go_wp2_with fail
  go_ret
  exact ⟨rfl, rfl⟩
theorem clip_any (w : World) (A : Option Addr) (n c : Nat) (hnc : n ≤ c) (hn : n ≤ 100000) :
    Calls Tryd.prog 24 #[.slice A n c] w fun e w' => e = .returned (.slice A n n) ∧ w = w' := by
  have hcut := fun w => run_cut_hm etyJ A n c w n n .i64 .i64 (Nat.le_refl _) hnc
  go_enter Tryd.func24, Tryd.ntmps24
  go_wp2_with fail
  go_ret
  exact ⟨rfl, rfl⟩

/-- A slice of integers that was made: nil, or at the head of a block of its own. -/
def NRow (w : World) (base : Nat) (A : Option Addr) (n : Nat) (l : List Int) : Prop := l.length = n ∧ ((A = none ∧ n = 0) ∨ ∃ g cur, A = some ⟨g, 0, none⟩ ∧ base ≤ g ∧ Blk w g 3 cur ∧ ∀ (j : Nat) (u : Value), (intC l)[j]? = some u → cur[j]? = some u)
theorem nrow_of_own {w : World} {base n c : Nat} {A : Option Addr} {l : List Int} (h : w.ownsRow base 3 1 (.slice A n c) n (intC l)) : NRow w base A n l := by
  refine ⟨own_lenI h, ?_⟩
  rcases h.2 with ⟨h0, h0'⟩ | ⟨g, cap, cur, h3, h4, h5, h6, h7, h8, h9⟩
  · injection h0 with e1 e2 e3; exact .inl ⟨e1, e2⟩
  · injection h3 with e1 e2 e3
    refine .inr ⟨g, cur, e1, h4, h5, fun j u hu => ?_⟩
    rw [← h9, List.getElem?_take] at hu
    split at hu
    · simpa using hu
    · cases hu
theorem NRow.below {w w' : World} {base n : Nat} {A : Option Addr} {l : List Int} (h : NRow w base A n l) (hb : Below w.heap.size w w') : NRow w' base A n l := by
  refine ⟨h.1, ?_⟩
  rcases h.2 with h0 | ⟨g, cur, e, h1, h2, h3⟩
  · exact .inl h0
  · exact .inr ⟨g, cur, e, h1, h2.below hb, h3⟩
theorem NRow.kp {w w' : World} {base n : Nat} {A : Option Addr} {l : List Int} (h : NRow w base A n l) {gs : List Nat} (hk : Kp gs w w') (hg : ∀ g, (Value.slice A 0 0).ownBlock = some g → g ∉ gs) : NRow w' base A n l := by
  refine ⟨h.1, ?_⟩
  rcases h.2 with h0 | ⟨g, cur, rfl, h1, h2, h3⟩
  · exact .inl h0
  · exact .inr ⟨g, cur, rfl, h1, h2.kp hk (hg g rfl), h3⟩
theorem NRow.base {w : World} {base base' n : Nat} {A : Option Addr} {l : List Int} (h : NRow w base A n l) (hb : base' ≤ base) : NRow w base' A n l := by
  refine ⟨h.1, ?_⟩
  rcases h.2 with h0 | ⟨g, cur, e, h1, h2, h3⟩
  · exact .inl h0
  · exact .inr ⟨g, cur, e, Nat.le_trans hb h1, h2, h3⟩
theorem NRow.lt {w : World} {base n : Nat} {A : Option Addr} {l : List Int} (h : NRow w base A n l) : ∀ g, (Value.slice A 0 0).ownBlock = some g → base ≤ g ∧ g < w.heap.size := fun g hg => by
  rcases h.2 with ⟨rfl, -⟩ | ⟨g', cur, rfl, h1, h2, -⟩
  · cases hg
  · simp [Value.ownBlock] at hg; subst hg; exact ⟨h1, h2.lt⟩
theorem NRow.at {w : World} {base n k : Nat} {A : Option Addr} {l : List Int} (h : NRow w base A n l) (hk : k < n) : ∃ g x, l[k]? = some x ∧ A = some ⟨g, 0, none⟩ ∧ base ≤ g ∧ g < w.heap.size ∧ w.cell? ⟨g, k, none⟩ = some (.int .i64 x) ∧ w.frozen? ⟨g, k, none⟩ = false ∧ ∀ y, NRow (w.setCell ⟨g, k, none⟩ (.int .i64 y)) base A n (l.set k y) := by
  obtain ⟨hl, h2⟩ := h
  have hx : l[k]? = some (l[k]'(by omega)) := List.getElem?_eq_getElem (by omega)
  rcases h2 with ⟨-, h0⟩ | ⟨g, cur, rfl, h1, h2, h3⟩
  · omega
  · have hc := h3 k (.int .i64 (l[k]'(by omega))) (by rw [intC, List.getElem?_map, hx]; rfl)
    refine ⟨g, _, hx, rfl, h1, h2.lt, by rw [h2.cell]; exact hc, h2.frozen k, fun y => ⟨by rw [List.length_set]; exact hl, .inr ⟨g, _, rfl, h1, h2.set k _, fun j u hu => ?_⟩⟩⟩
    rw [intC, List.getElem?_map, List.getElem?_set] at hu
    rw [Array.getElem?_setIfInBounds]
    split at hu
    · rename_i e
      subst e
      rw [if_pos rfl, if_pos (Array.getElem?_eq_some_iff.1 hc).1]
      split at hu
      · simpa using hu
      · cases hu
    · rename_i e
      rw [if_neg e]
      exact h3 j u (by rw [intC, List.getElem?_map]; exact hu)
/-- What is new of a list goes behind another one. -/
def addAll (o : List Int) (ms : List Int) : List Int := ms.foldl (fun o m => if m ∈ o then o else o ++ [m]) o
def metasN (from_ : Nat) : Nat → List Int
  | 0 => []
  | k + 1 => addAll (metasN from_ k) (match toP ((from_ + k : Nat) : Int) with | some p => p.metas | none => [])
theorem addAll_len (o ms : List Int) : (addAll o ms).length ≤ o.length + ms.length := by
  unfold addAll
  induction ms generalizing o with
  | nil => simp
  | cons m ms ih =>
    rw [List.foldl_cons]
    refine Nat.le_trans (ih _) ?_
    split <;> simp <;> omega
theorem addAll_step {o ms : List Int} {j : Nat} {x : Int} (hx : ms[j]? = some x) : addAll o (ms.take (j + 1)) = if x ∈ addAll o (ms.take j) then addAll o (ms.take j) else addAll o (ms.take j) ++ [x] := by
  unfold addAll
  rw [List.take_add_one, hx, List.foldl_append]
  rfl
theorem metasN_len (f : Nat) : ∀ k, (metasN f k).length ≤ 3 * k
  | 0 => Nat.le_refl _
  | k + 1 => by
    unfold metasN
    refine Nat.le_trans (addAll_len _ _) ?_
    have h1 := metasN_len f k
    have h2 : (match toP ((f + k : Nat) : Int) with | some p => p.metas | none => []).length ≤ 3 := by
      split
      · rename_i p hp; exact (toP_len hp).2.1
      · exact Nat.zero_le _
    omega
theorem toP_data {k : Nat} (hk : k < 600) : ∃ p, toP (k : Int) = some p := by
  have h : findP (k : Int) = some (0, k) := by unfold findP; rw [if_pos (by omega), if_pos (by omega)]; rfl
  unfold toP
  rw [h]
  dsimp only
  split <;> exact ⟨_, rfl⟩
theorem metas_no (a b : Int) (h : ¬ (0 ≤ a ∧ a ≤ b ∧ b ≤ 600)) (w : World) : Calls Tryd.prog 11 #[.int .i64 a, .int .i64 b] w fun e w' => e = .returned (.tuple #[.slice none 0 0, .int .i64 22]) ∧ w = w' := by
  by_cases h1 : a < 0
  · clear h
    go_enter Tryd.func11, Tryd.ntmps11
    go_wp2_with fail
    go_ret2
    exact ⟨rfl, rfl⟩
  · by_cases h2 : b < a
    · clear h
      go_enter Tryd.func11, Tryd.ntmps11
      go_wp2_with fail
      go_ret2
      exact ⟨rfl, rfl⟩
    · have h3 : 600 < b := by omega
      have h0 : decide (b < a) = false := decide_eq_false h2
      clear h
      go_enter Tryd.func11, Tryd.ntmps11
      go_wp2_with fail
      go_ret2
      exact ⟨rfl, rfl⟩
set_option maxHeartbeats 1000000 in
set_option maxRecDepth 100000 in
theorem metas_yes (a b : Nat) (hab : a ≤ b) (hb6 : b ≤ 600) (w : World) (sp : SpanAt w) : Calls Tryd.prog 11 #[.int .i64 (a : Int), .int .i64 (b : Int)] w fun e w' =>
    ∃ A n, e = .returned (.tuple #[.slice A n n, .int .i64 0]) ∧ NRow w' w.heap.size A n (metasN a (b - a)) ∧ Below w.heap.size w w' := by
  have SP := hide sp
  have k6 := fun w (x : Int) => int_slice w x
  have d1 : decide ((a : Int) < 0) = false := decide_eq_false (by omega)
  have d2 : decide (b < a) = false := decide_eq_false (by omega)
  have d3 : decide (600 < (b : Int)) = false := decide_eq_false (by omega)
  clear sp
  go_enter Tryd.func11, Tryd.ntmps11
  go_wp2_with fail
  go_loopw [6, 7] (fun x y wr => ∃ (k n : Nat) (A : Option Addr) (c : Nat), a + k ≤ b ∧ x = .slice A n c ∧ y = .int .i64 ((a + k : Nat) : Int) ∧ wr.ownsRow w.heap.size 3 1 (.slice A n c) n (intC (metasN a k)) ∧ Below w.heap.size w wr) (fun _ y _ => b - (intOf y).toNat)
  case atStart => exact ⟨0, 0, none, 0, by omega, rfl, rfl, World.ownsRow_nil _ _ _ _, Below.refl _ _⟩
  case round =>
    obtain ⟨wo, rfl⟩ : ∃ wo : World, wo = wr := ⟨_, rfl⟩
    obtain ⟨k, n, A, c, hk, rfl, rfl, h1, h2⟩ := hrel
    have H1 := hide h1
    have H2 := hide h2
    have hnl := own_lenI h1
    have hn2 := metasN_len a k
    have hn18 : n ≤ 1800 := by omega
    clear h1 h2 hnl hn2
    obtain ⟨m, hm⟩ : ∃ m : Nat, m = a + k := ⟨_, rfl⟩
    rw [← hm] at hk ⊢
    by_cases hlt : m < b
    · obtain ⟨p, hp⟩ := toP_data (show m < 600 by omega)
      have hst : Hid (metasN a (k + 1) = addAll (metasN a k) p.metas) := hide (by
        show addAll (metasN a k) (match toP ((a + k : Nat) : Int) with | some p => p.metas | none => []) = _
        rw [← hm, hp])
      have hpl := (toP_len hp).2.1
      have C := hide (to_any (m : Int) ⟨by omega, by omega⟩ hp wo (SP.out.bel H2.out))
      unfold pathA at C
      obtain ⟨pl, hpl2⟩ : ∃ pl, pl = p.metas.length := ⟨_, rfl⟩
      rw [← hpl2] at C hpl
      have HPL := hide hpl2
      have hm' := hide hm
      clear hm hp hpl2
      go_wp2_with fail
      refine C.out.mono ?_
      rintro e w1 ⟨A1, c1, A2, c2, rfl, hpm, hb1⟩
      have M1 := hide (own_bel hpm.m ((Below.refl _ _).alloc (Nat.le_refl _) (.cells #[.int .i64 (p.root : Int), .slice A1 pl c1, .slice A2 pl c2] 34)))
      have hb2 := hb1.alloc hb1.size (.cells #[.int .i64 (p.root : Int), .slice A1 pl c1, .slice A2 pl c2] 34)
      have N1 := hide (own_bel H1.out hb2)
      have N2 := hide (H2.out.trans (hb2.mono H2.out.size))
      have hwo := hide (show w.heap.size ≤ wo.heap.size from H2.out.size)
      have hlo := hide (fun g (hg : (Value.slice A n c).ownBlock = some g) => (H1.out.lt g hg).2)
      clear hpm hb1 hb2 C H1
      go_wp2_with fail
      generalize w1.alloc (.cells #[.int .i64 (p.root : Int), .slice A1 pl c1, .slice A2 pl c2] 34) = w2 at *
      go_loopw [6, 37] (fun x y wr => ∃ (j n : Nat) (A : Option Addr) (c : Nat), j ≤ pl ∧ x = .slice A n c ∧ y = .int .i64 (j : Int) ∧ wr.ownsRow w.heap.size 3 1 (.slice A n c) n (intC (addAll (metasN a k) (p.metas.take j))) ∧ wr.ownsRow wo.heap.size 3 1 (.slice A1 pl c1) pl (intC p.metas) ∧
        (∀ g, (Value.slice A1 0 0).ownBlock = some g → (Value.slice A 0 0).ownBlock ≠ some g) ∧ n ≤ 1800 + j ∧ Below w.heap.size w wr) (fun _ y _ => pl - (intOf y).toNat)
      case atStart => exact ⟨0, n, A, c, Nat.zero_le _, rfl, rfl, N1.out, M1.out, (fun g hg e => by have h1 := (M1.out.lt g (by rw [← hg]; exact ob' _ _ _)).1; have h2 := hlo.out g (by rw [← e]; exact ob' _ _ _); omega), by omega, N2.out⟩
      case round =>
        obtain ⟨j, n, A, c, hj, rfl, rfl, h1, h2, h3, h4, h5⟩ := hrel
        have J1 := hide h1
        have J2 := hide h2
        have J3 := hide h3
        have J5 := hide h5
        clear h1 h2 h3 h5 N1 M1 N2 hlo H2
        by_cases hlt2 : j < pl
        · obtain ⟨g1, x, hx, hA1, hg1, hg2, q1⟩ := own_atI J2.out hlt2
          subst hA1
          have hst2 := hide (addAll_step (o := metasN a k) hx)
          clear hx
          by_cases hin : x ∈ addAll (metasN a k) (p.metas.take j)
          · rw [if_pos hin] at hst2
            have HIN := hide hin
            clear hin hg1 hg2
            go_wp2_with fail
            refine (contains_yes wr w.heap.size n c A _ J1.out (by omega) x HIN.out).mono ?_
            rintro e w4 ⟨rfl, rfl⟩
            go_wp2_with fail
            go_roundw
            case rel => exact ⟨j + 1, n, A, c, by omega, rfl, by go_num, by rw [hst2.out]; exact J1.out, J2.out, J3.out, by omega, J5.out⟩
            case measure => simp [intOf]; omega
          · rw [if_neg hin] at hst2
            have HIN := hide hin
            clear hin hg1 hg2
            go_wp2_with fail
            refine (contains_no wr w.heap.size n c A _ J1.out (by omega) x HIN.out).mono ?_
            rintro e w4 ⟨rfl, rfl⟩
            go_wp2_with (
              at_builtin
              refine wpList_app _ rfl (.tmp 45) (.tmp 47) _ rfl etyJ w.heap.size (.slice A n c) n _ rfl (own_bel J1.out ((Below.refl _ _).alloc (Nat.le_refl _) (.cells #[.int .i64 x] 3))) (wr.heap.size + 1) (some ⟨wr.heap.size, 0, none⟩) 1 1 [.int .i64 x] rfl (one_int wr x) (by intro u hu; rw [List.mem_singleton] at hu; rw [hu]; rfl) (by omega) (Nat.le_trans J5.out.size (by simp)) ?_
              intro A3 c3 w5 hown5 hg5 hat5
              have Q1 := hide hown5
              have Q2 := hide (own_gr (own_bel J2.out ((Below.refl _ _).alloc (Nat.le_refl _) (.cells #[.int .i64 x] 3))) hg5 (fun g hg e => J3.out g (by rw [← hg]; exact (ob' _ _ _).symm) (by rw [e]; exact (ob' _ _ _).symm)))
              have Q3 : Hid (∀ g, (Value.slice (some ⟨g1, 0, none⟩) 0 0).ownBlock = some g → (Value.slice A3 0 0).ownBlock ≠ some g) := hide (fun g hg e => by
                rw [← ob' A3 (n + 1) c3] at e
                rcases hat5 with h | h
                · rw [h, ob' A] at e; exact J3.out g hg e
                · rw [h] at e
                  have := (J2.out.lt g (by rw [← hg]; exact ob' _ _ _)).2
                  simp at e; omega)
              have Q5 := hide (bel_gr (J5.out.alloc J5.out.size (.cells #[.int .i64 x] 3)) hg5 (fun g hg => (J1.out.lt g hg).1) (Nat.le_trans J5.out.size (by simp)))
              clear hown5 hg5 hat5)
            go_roundw
            case rel => exact ⟨j + 1, n + 1, A3, c3, by omega, rfl, by go_num, by rw [hst2.out, ← intC_app]; exact Q1.out, Q2.out, Q3.out, by omega, Q5.out⟩
            case measure => simp [intOf]; omega
        · have hjp : j = pl := by omega
          subst hjp
          have hall : Hid (addAll (metasN a k) (p.metas.take j) = metasN a (k + 1)) := hide (by rw [hst.out, List.take_of_length_le (by rw [HPL.out]; exact Nat.le_refl _)])
          rw [hall.out] at J1
          clear hall
          go_wp2_with fail
          go_roundw
          case rel => exact ⟨k + 1, n, A, c, by have := hm'.out; omega, rfl, by rw [show a + (k + 1) = m + 1 by have := hm'.out; omega]; go_num, J1.out, J5.out⟩
          case measure => simp [intOf]; omega
    · have hmb : m = b := by omega
      have hkb := hide (show b - a = k by omega)
      obtain ⟨Ac, cc, hv, hnc, -⟩ := own_form H1.out
      injection hv with hv1 hv2 hv3
      subst hv1 hv3
      clear hmb hm
      go_wp2_with fail
      refine (clip_any wo A n c hnc (by omega)).mono ?_
      rintro e w4 ⟨rfl, rfl⟩
      go_wp2_with fail
      go_ret2
      rw [hkb.out]
      refine ⟨A, n, rfl, ?_, H2.out⟩
      exact nrow_of_own H1.out
end Go.Proofs.YtakflabokbaibaaDoor
