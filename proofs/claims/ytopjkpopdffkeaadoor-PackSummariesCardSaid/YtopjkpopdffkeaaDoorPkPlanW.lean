/- The walk over pack.Plan. -/
import Derived.Test.YtopjkpopdffkeaaDoorPkRun
set_option linter.unusedVariables false
set_option linter.unusedSimpArgs false
namespace Go.Proofs.YtopjkpopdffkeaaDoor
open Go.RowKit
attribute [local go_sem ↓] Go.wp_at_zero Go.wp_at_succ

/-- A place that is none. -/
def badP (left size : Int) : Prop := size < 8 ∨ 64 < size ∨ left < 0 ∨ size < left
instance (left size : Int) : Decidable (badP left size) := by unfold badP; infer_instance
/-- What Plan answers. -/
def PlanQ (base : Nat) (w' : World) (e : Ending) : Option PkS → Prop
  | none => e = .returned (.tuple #[.slice none 0 0, .int .i64 27])
  | some st => ∃ B d, e = .returned (.tuple #[.slice B st.out.length d, .int .i64 0]) ∧ OutR base w' B st.out.length d st.out
set_option maxRecDepth 100000 in
set_option maxHeartbeats 4000000 in
theorem plan_good (A A' : Option Addr) (m c m' c' lo base0 lo' base0' : Nat) (files : List FI) (inos : List Int) (left size : Int) (w : World) (hf : FisAt lo base0 w A m files) (hi : IntsAt lo' base0' w A' m' inos) (hb0 : base0 ≤ w.heap.size) (hb0' : base0' ≤ w.heap.size) (hm : m ≤ 10000) (hm' : m' ≤ 10000) (hl : lsN files ≤ 10000) (hg : ¬ badP left size) :
    Calls Tryd.prog 7 #[.slice A m c, .slice A' m' c', .int .i64 left, .int .i64 size] w fun e w' => Below w.heap.size w w' ∧ PlanQ w.heap.size w' e (goS (actsA files inos) (startS left size)) := by
  unfold badP at hg
  have g1 : ¬ size < 8 := fun h => hg (.inl h)
  have g2 : ¬ 64 < size := fun h => hg (.inr (.inl h))
  have g3 : ¬ left < 0 := fun h => hg (.inr (.inr (.inl h)))
  have g4 : ¬ size < left := fun h => hg (.inr (.inr (.inr h)))
  obtain ⟨R, hR⟩ : ∃ R, R = goS (actsA files inos) (startS left size) := ⟨_, rfl⟩
  have HR := hide hR
  replace hf := hf.base_ hb0
  replace hi := RwAt.base_ hi hb0'
  have HF := hide hf
  have HI := hide hi
  have HL := hide hl
  have HFL := hide hf.len
  have HIL := hide (IntsAt.len hi)
  have PK0 : Hid (Pkr w.heap.size (w.alloc (.cells #[.slice none 0 0, .int .i64 left, .int .i64 size, .int .i64 (-1)] 45)) w.heap.size (startS left size)) := hide ⟨Nat.le_refl _, none, 0, Blk.new _ _ _, [], rfl, rfl, World.ownsRow_nil _ _ _ _, by simp⟩
  have J0 : Hid (JP size (startS left size)) := hide ⟨rfl, by show 0 ≤ left; omega, by show left ≤ size; omega, fun h => absurd rfl h⟩
  have B1 := hide ((Below.refl w.heap.size w).alloc (Nat.le_refl _) (.cells #[.slice none 0 0, .int .i64 left, .int .i64 size, .int .i64 (-1)] 45))
  rw [← hR]
  clear hR hf hi hl hg
  go_enter Tryd.func7, Tryd.ntmps7
  go_wp2_with fail
  generalize w.alloc (.cells #[.slice none 0 0, .int .i64 left, .int .i64 size, .int .i64 (-1)] 45) = w1 at *
  obtain ⟨k, hk⟩ : ∃ k, k = w.heap.size := ⟨_, rfl⟩
  go_loopw [38] (fun x wr => ∃ (i : Nat) (st : PkS), i ≤ m ∧ x = .int .i64 (i : Int) ∧ Pkr w.heap.size wr w.heap.size st ∧ Kt TP w.heap.size w1 wr ∧ JP size st ∧ JL st ∧ st.out.length ≤ 64 ∧ st.file < i ∧ R = goS (actsF i (files.drop i) ++ inos.map stepI) st) (fun x _ => m - (intOf x).toNat)
  case atStart => exact ⟨0, startS left size, Nat.zero_le _, rfl, PK0.out, Kt.refl _ _ _, J0.out, fun h => absurd rfl h, Nat.zero_le _, by show (-1 : Int) < _; omega, HR.out⟩
  case round =>
    obtain ⟨i, st, him, rfl, h1, h2, h3, h4, h5, h6, h7⟩ := hrel
    have P1 := hide h1
    have K1 := hide h2
    have J1 := hide h3
    have L1 := hide h4
    have N1 := hide h5
    have F1 := hide h6
    have R1 := hide h7
    clear h1 h2 h3 h4 h5 h6 h7
    have BW := hide (B1.out.trans (K1.out.below B1.out.size))
    by_cases hlt : i < m
    · obtain ⟨b, off, f, A1, c1, hA, hFr, hfi, hI1, q0, q1, q2⟩ := (HF.out.below BW.out).at hlt
      subst hA
      have HFI := hide hfi
      have HI1 := hide hI1
      have hmf : Hid (f.ls.length ≤ 10000) := hide (Nat.le_trans (lsN_mem hfi) HL.out)
      obtain ⟨mf, hmf2⟩ : ∃ x, x = f.ls.length := ⟨_, rfl⟩
      rw [← hmf2] at q2 hmf HI1
      have HMF := hide hmf2
      have hmfb := hmf.out
      clear hfi hI1 hmf2 hFr
      have HI4 := hide (RwAt.below HI1.out ((Below.refl _ _).alloc (Nat.le_refl _) (.cells #[.int .i64 f.ino, .int .i64 f.ver, .slice A1 mf c1] 28)))
      have KB := hide (Blk.new wr 28 #[.int .i64 f.ino, .int .i64 f.ver, .slice A1 mf c1])
      have P2 := hide (P1.out.below ((Below.refl _ _).alloc (Nat.le_refl _) (.cells #[.int .i64 f.ino, .int .i64 f.ver, .slice A1 mf c1] 28)))
      have K2 := hide (K1.out.alloc (.cells #[.int .i64 f.ino, .int .i64 f.ver, .slice A1 mf c1] 28))
      go_wp2_with fail
      generalize wr.alloc (.cells #[.int .i64 f.ino, .int .i64 f.ver, .slice A1 mf c1] 28) = w4 at *
      generalize hbx : wr.heap.size = bx at *
      have R2 : Hid (R = goS ((f.ls.drop 0).map (fun n => stepL (i : Int) f n) ++ (actsF (i + 1) (files.drop (i + 1)) ++ inos.map stepI)) st) := hide (by rw [R1.out, actsF_drop HFI.out, List.append_assoc]; rfl)
      go_loopw [46] (fun x wz => ∃ (j : Nat) (su : PkS), j ≤ mf ∧ x = .int .i64 (j : Int) ∧ Pkr w.heap.size wz w.heap.size su ∧ Kt TP w.heap.size w4 wz ∧ JP size su ∧ JL su ∧ su.out.length ≤ 64 ∧ su.file ≤ i ∧ R = goS ((f.ls.drop j).map (fun n => stepL (i : Int) f n) ++ (actsF (i + 1) (files.drop (i + 1)) ++ inos.map stepI)) su) (fun x _ => mf - (intOf x).toNat)
      case atStart => exact ⟨0, st, Nat.zero_le _, rfl, P2.out, Kt.refl _ _ _, J1.out, L1.out, N1.out, by have := F1.out; omega, R2.out⟩
      case round =>
        obtain ⟨j, su, hjm, rfl, h1, h2, h3, h4, h5, h6, h7⟩ := hrel
        have P3 := hide h1
        have K3 := hide h2
        have J3 := hide h3
        have L3 := hide h4
        have N3 := hide h5
        have F3 := hide h6
        have R3 := hide h7
        have KB3 := hide (KB.out.kt h2 (by decide))
        have BW3 := hide (B1.out.trans ((K2.out.trans h2).below B1.out.size))
        clear h1 h2 h3 h4 h5 h6 h7
        by_cases hlj : j < mf
        · obtain ⟨xn, hxn⟩ : ∃ x, f.ls[j]? = some x := ⟨_, List.getElem?_eq_getElem (by rw [← HMF.out]; exact hlj)⟩
          have HX := hide hxn
          obtain ⟨b5, off5, hA5, -, hc5⟩ := (RwAt.kt HI4.out K3.out (by decide)).at (by omega) (by decide)
          have z5 := hc5 j (.int .i64 xn) (by rw [intC, List.getElem?_map, hxn]; rfl)
          subst hA5
          have x0 := KB3.out.cell 0
          have x1 := KB3.out.cell 1
          have x2 := KB3.out.cell 2
          simp only [List.getElem?_toArray, List.getElem?_cons_succ, List.getElem?_cons_zero] at x0 x1 x2
          clear hxn hc5
          go_wp2_with fail
          refine (lbn_any w.heap.size (i : Int) xn f (some ⟨b5, off5, none⟩) mf c1 wr).mono ?_
          rintro e w6 ⟨b6, hb6, rfl, k1, k2, k3, k4, hB6⟩
          have P6 := hide (P3.out.below hB6)
          have K6 := hide (K3.out.trans (Kt.of_below hB6))
          have B6 := hide (Nat.le_trans BW3.out.size hB6.size)
          have AO := hide (lbn_ok (base := w.heap.size) (k := w.heap.size) (Nat.le_trans BW3.out.size hb6) k1 k2 k3 k4)
          clear x0 x1 x2 z5 k1 k2 k3 k4 hB6
          go_wp2_with fail
          refine (item_any w.heap.size w.heap.size su _ _ _ _ w6 P6.out AO.out (Nat.le_trans N3.out (by decide)) (fun _ _ _ e => by omega) (fun hne e => L3.out hne (by rw [e]; omega)) J3.out.bd ⟨by have := J3.out.l0; omega, by have := J3.out.l1; omega⟩ B6.out).mono ?_
          rintro e w7 ⟨rfl, h8, h9⟩
          have P8 := hide h8
          have K8 := hide (K6.out.trans h9)
          clear h8 h9
          obtain ⟨-, -, -, -, -, r3, -, rf⟩ := P8.out.quad
          have rf3 := rf 3
          have P9 : Hid (Pkr w.heap.size (w7.setCell ⟨w.heap.size, 3, none⟩ (.int .i64 (i : Int))) w.heap.size (stepL (i : Int) f xn su)) := hide (P8.out.file_ (i : Int))
          have K9 : Hid (Kt TP w.heap.size w4 (w7.setCell ⟨w.heap.size, 3, none⟩ (.int .i64 (i : Int)))) := hide (K8.out.trans (P8.out.setKt 3 _))
          obtain ⟨J9, L9, F9⟩ := stepL_J (f := f) (n := xn) (by omega) (show (0 : Int) ≤ (i : Int) by omega) J3.out L3.out
          have RS := hide (R3.out.trans (by rw [map_drop HX.out, List.cons_append]))
          obtain ⟨s9, hs9⟩ : ∃ s, s = stepL (i : Int) f xn su := ⟨_, rfl⟩
          obtain ⟨Q, d, t0, -⟩ := P9.out.quad
          rw [← hs9] at P9 J9 L9 F9 t0
          have HS9 := hide hs9
          have J9 := hide J9
          have L9 := hide L9
          have F9 := hide F9
          clear rf hs9 AO P6 K6
          obtain ⟨n9, hn9⟩ : ∃ n, n = s9.out.length := ⟨_, rfl⟩
          rw [← hn9] at t0
          have HN9 := hide hn9
          clear hn9
          by_cases h64 : 64 < n9
          · go_wp2_with fail
            go_ret2
            have hR := RS.out.trans (goS_stop (by rw [← HS9.out, ← HN9.out]; exact h64))
            rw [hR]
            exact ⟨B1.out.trans ((K2.out.trans K9.out).below B1.out.size), rfl⟩
          · go_wp2_with fail
            go_roundw
            case rel => exact ⟨j + 1, s9, by omega, by go_num, P9.out, K9.out, J9.out, L9.out, by rw [← HN9.out]; omega, by rw [F9.out]; exact Int.le_refl _, by rw [RS.out, goS_step (by rw [← HS9.out, ← HN9.out]; exact h64), ← HS9.out]⟩
            case measure => simp [intOf]; omega
        · have hjn : j = mf := by omega
          go_wp2_with fail
          go_roundw
          case rel => exact ⟨i + 1, su, by omega, by go_num, P3.out, K2.out.trans K3.out, J3.out, L3.out, N3.out, by have := F3.out; omega, by rw [R3.out, List.drop_of_length_le (by rw [← HMF.out, hjn]; exact Nat.le_refl _)]; rfl⟩
          case measure => simp [intOf]; omega
    · have him' : i = m := by omega
      have R2 : Hid (R = goS ((inos.drop 0).map stepI) st) := hide (by rw [R1.out, List.drop_of_length_le (by rw [HFL.out, him']; exact Nat.le_refl _)]; rfl)
      clear him'
      go_wp2_with fail
      go_loopw [71] (fun x wz => ∃ (j : Nat) (su : PkS), j ≤ m' ∧ x = .int .i64 (j : Int) ∧ Pkr w.heap.size wz w.heap.size su ∧ Kt TP w.heap.size w1 wz ∧ JP size su ∧ su.out.length ≤ 64 ∧ R = goS ((inos.drop j).map stepI) su) (fun x _ => m' - (intOf x).toNat)
      case atStart => exact ⟨0, st, Nat.zero_le _, rfl, P1.out, K1.out, J1.out, N1.out, R2.out⟩
      case round =>
        obtain ⟨j, su, hjm, rfl, h1, h2, h3, h4, h5⟩ := hrel
        have P3 := hide h1
        have K3 := hide h2
        have J3 := hide h3
        have N3 := hide h4
        have R3 := hide h5
        have BW3 := hide (B1.out.trans (h2.below B1.out.size))
        clear h1 h2 h3 h4 h5
        by_cases hlj : j < m'
        · obtain ⟨xn, hxn⟩ : ∃ x, inos[j]? = some x := ⟨_, List.getElem?_eq_getElem (by rw [HIL.out]; exact hlj)⟩
          have HX := hide hxn
          obtain ⟨b5, off5, hA5, -, hc5⟩ := (RwAt.kt (RwAt.below HI.out B1.out) K3.out (by decide)).at (by omega) (by decide)
          have z5 := hc5 j (.int .i64 xn) (by rw [intC, List.getElem?_map, hxn]; rfl)
          subst hA5
          have KX := hide (Blk.new wr 3 #[.int .i64 xn])
          have P6 := hide (P3.out.below ((Below.refl _ _).alloc (Nat.le_refl _) (.cells #[.int .i64 xn] 3)))
          have K6 := hide (K3.out.alloc (.cells #[.int .i64 xn] 3))
          have B6 : Hid (w.heap.size ≤ (wr.alloc (.cells #[.int .i64 xn] 3)).heap.size) := hide (Nat.le_trans BW3.out.size (by simp))
          clear hxn hc5
          go_wp2_with fail
          generalize wr.alloc (.cells #[.int .i64 xn] 3) = w6 at *
          refine (item_any w.heap.size w.heap.size su _ _ (addI xn) _ w6 P6.out (pl1_ok KX.out) (Nat.le_trans N3.out (by decide)) (fun _ _ _ => trivial) (fun _ => trivial) J3.out.bd ⟨by have := J3.out.l0; omega, by have := J3.out.l1; omega⟩ B6.out).mono ?_
          rintro e w7 ⟨rfl, h8, h9⟩
          have P9 : Hid (Pkr w.heap.size w7 w.heap.size (stepI xn su)) := hide h8
          have K9 := hide (K6.out.trans h9)
          have J9 := stepI_J (n := xn) (by omega) J3.out
          have RS := hide (R3.out.trans (by rw [map_drop HX.out]))
          obtain ⟨s9, hs9⟩ : ∃ s, s = stepI xn su := ⟨_, rfl⟩
          obtain ⟨Q, d, t0, -⟩ := P9.out.quad
          rw [← hs9] at P9 J9 t0
          have HS9 := hide hs9
          have J9 := hide J9
          obtain ⟨n9, hn9⟩ : ∃ n, n = s9.out.length := ⟨_, rfl⟩
          rw [← hn9] at t0
          have HN9 := hide hn9
          clear hn9 hs9 h8 h9 z5 P6 K6 B6 KX
          by_cases h64 : 64 < n9
          · go_wp2_with fail
            go_ret2
            have hR := RS.out.trans (goS_stop (by rw [← HS9.out, ← HN9.out]; exact h64))
            rw [hR]
            exact ⟨B1.out.trans (K9.out.below B1.out.size), rfl⟩
          · go_wp2_with fail
            go_roundw
            case rel =>
              exact ⟨j + 1, s9, by omega, by go_num, P9.out, K9.out, J9.out, by rw [← HN9.out]; omega, by rw [RS.out, goS_step (by rw [← HS9.out, ← HN9.out]; exact h64), ← HS9.out]⟩
            case measure => simp [intOf]; omega
        · have hjn : j = m' := by omega
          obtain ⟨Q, d, t0, -, -, -, hOut, -⟩ := P3.out.quad
          have HOut := hide hOut
          obtain ⟨n9, hn9⟩ : ∃ n, n = su.out.length := ⟨_, rfl⟩
          rw [← hn9] at t0
          have HN9 := hide hn9
          clear hn9 hOut
          go_wp2_with fail
          go_ret2
          have hR : R = some su := by rw [R3.out, List.drop_of_length_le (by rw [HIL.out, hjn]; exact Nat.le_refl _)]; rfl
          rw [hR]
          exact ⟨BW3.out, Q, d, by rw [HN9.out]; rfl, HOut.out⟩
theorem plan_bad (A A' : Option Addr) (m c m' c' : Nat) (left size : Int) (w : World) (hg : badP left size) :
    Calls Tryd.prog 7 #[.slice A m c, .slice A' m' c', .int .i64 left, .int .i64 size] w fun e w' => e = .returned (.tuple #[.slice none 0 0, .int .i64 22]) ∧ Below w.heap.size w w' := by
  unfold badP at hg
  by_cases h1 : size < 8
  · go_enter Tryd.func7, Tryd.ntmps7
    go_wp2_with fail
    go_ret2
    exact ⟨rfl, Below.refl _ _⟩
  · by_cases h2 : 64 < size
    · go_enter Tryd.func7, Tryd.ntmps7
      go_wp2_with fail
      go_ret2
      exact ⟨rfl, Below.refl _ _⟩
    · by_cases h3 : left < 0
      · go_enter Tryd.func7, Tryd.ntmps7
        go_wp2_with fail
        go_ret2
        exact ⟨rfl, Below.refl _ _⟩
      · have h4 : size < left := by omega
        clear hg
        go_enter Tryd.func7, Tryd.ntmps7
        go_wp2_with fail
        go_ret2
        exact ⟨rfl, Below.refl _ _⟩
end Go.Proofs.YtopjkpopdffkeaaDoor
