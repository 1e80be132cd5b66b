/- The walk of marllaw02.DiskArmed. -/
import Derived.Test.YtpcaaobninnkaaaDskReadsW
namespace Go.Proofs.Ytpcaaobninnkaaa
open Go.RowKit

/-- The disk behind j steps that were tried, where k are left at first. -/
structure ArmD (D : Dsk) (k j : Nat) : Prop where
  n : D.sure.length = 60
  s : D.steps = min j k
  l : D.left = (k : Int) - (min j k : Nat)
  q : D.queue.length ≤ j
theorem ArmD.barred {D : Dsk} {k j : Nat} (h : ArmD D k j) (hj : j < k) : ArmD D.barred k (j + 1) where
  n := (putQ_len _ _).trans h.n
  s := by show D.steps + 1 = _; rw [h.s]; omega
  l := by show max (D.left - 1) (-1) = _; rw [h.l]; omega
  q := Nat.zero_le _
theorem ArmD.wrote {D : Dsk} {k j : Nat} (h : ArmD D k j) (hj : j < k) (i : Nat) (b : List UInt8) : ArmD (D.wrote i b) k (j + 1) where
  n := h.n
  s := by show D.steps + 1 = _; rw [h.s]; omega
  l := by show max (D.left - 1) (-1) = _; rw [h.l]; omega
  q := by show (D.queue ++ [(i, b)]).length ≤ _; have := h.q; simp; omega
theorem ArmD.dead {D : Dsk} {k j : Nat} (h : ArmD D k j) (hj : k ≤ j) : ArmD D k (j + 1) where
  n := h.n
  s := by rw [h.s]; omega
  l := by rw [h.l]; omega
  q := by have := h.q; omega

theorem bool_at {w : World} {B m : Nat} {A : Option Addr} {bs : List Bool} (h : Sl w B A m (bs.map Value.bool)) (j : Nat) : (j < m ∧ ∃ ad, A = some ad ∧ w.cell? (ad.add j) = some (.bool (bs.getD j false))) ∨ (m ≤ j ∧ bs.getD j false = false) := by
  have hl := h.len
  rw [List.length_map] at hl
  rcases Nat.lt_or_ge j m with hj | hj
  · obtain ⟨ad, u, hA, -, hu, hc⟩ := h.get hj
    refine .inl ⟨hj, ad, hA, ?_⟩
    rw [List.getElem?_map, List.getElem?_eq_getElem (by omega)] at hu
    simp only [Option.map_some, Option.some.injEq] at hu
    rw [hc, ← hu, List.getD_eq_getElem?_getD, List.getElem?_eq_getElem (by omega)]
    rfl
  · exact .inr ⟨hj, by rw [List.getD_eq_getElem?_getD, List.getElem?_eq_none (by omega)]; rfl⟩
theorem ld_arm_ok' {w0 w : World} {d : Nat} {D : Dsk} (h : LD w0 w d D) (n x : Int) (hx : x = n) (h0 : 0 ≤ n) (h1 : n ≤ 9223372036854775807) (hl : D.left ≠ 0) : Calls Try.prog 20 #[.pointer (some ⟨d, 0, none⟩), .int .i64 x] w fun e w' => e = .returned (.int .i64 0) ∧ LD w0 w' d { D with left := n } := by
  subst hx; exact ld_arm_ok h x h0 h1 hl

set_option maxHeartbeats 1000000 in
set_option maxRecDepth 100000 in
theorem armed_all (n : Int) (A : Option Addr) (m c : Nat) (bs : List Bool) (w : World) (h : Sl w w.heap.size A m (bs.map Value.bool)) (hm : m ≤ 9223372036854775807) :
    Calls Try.prog 6 #[.int .i64 n, .slice A m c] w fun e w' => e = .returned (.bool true) ∧ Below w.heap.size w w' := by
  obtain ⟨k, hk, hlt⟩ := modU n 50 (by decide) (by decide)
  have H := hide h
  clear h
  go_enter Try.func6, Try.ntmps6
  go_wp2_with fail
  refine (awake_any _).mono ?_
  rintro e w1 ⟨rfl, hb1⟩
  have B1 := hide hb1
  clear hb1
  go_wp2_with fail
  refine (ld_new _ 60 (by decide) (by decide)).mono ?_
  rintro e w2 ⟨d, rfl, h2⟩
  have H2 := hide h2
  clear h2
  go_wp2_with fail
  refine (ld_arm_ok' H2.out (k : Int) _ (by omega) (by omega) (by omega) (by show (-1 : Int) ≠ 0; decide)).mono ?_
  rintro e w3 ⟨rfl, h3⟩
  have HA : Hid (ArmD { freshD 60 with left := (k : Int) } k 0) := hide ⟨by simp [freshD], by simp [freshD], by simp, Nat.zero_le _⟩
  have H3 := hide h3
  clear h3 H2
  go_wp2_with fail
  go_loopw [7] (fun x wr => ∃ (j : Nat) (D : Dsk), j ≤ k + 3 ∧ x = .int .i64 (j : Int) ∧ LD w1 wr d D ∧ ArmD D k j) (fun x _ => k + 3 - (intOf x).toNat)
  case atStart => exact ⟨0, _, Nat.zero_le _, rfl, H3.out, HA.out⟩
  case round =>
    obtain ⟨j, D, hj, rfl, h4, hD⟩ := hrel
    have H4 := hide h4
    have HD := hide hD
    have hjs : Hid (D.sure.length = 60) := hide hD.n
    have hjq : Hid (D.queue.length < 1000000) := hide (by have := hD.q; omega)
    have hst : Hid (D.steps < 1000000) := hide (by have := hD.s; omega)
    have hl : Hid (D.left = (k : Int) - (min j k : Nat)) := hide hD.l
    clear h4 hD H3 HA
    by_cases hlt : j < k + 3
    · rcases bool_at (H.out.below (B1.out.trans (H4.out.bel.mono B1.out.size))) j with ⟨hjm, ad, hA', hcu⟩ | ⟨hjm, hb⟩
      · subst hA'
        generalize bs.getD j false = fb at *
        cases fb
        ·
          by_cases hd : j < k
          · go_wp2_with fail
            refine (ld_bytes _ (wr.heap.size + 1) _ 1 1 [9] (by_new wr 9) (by simp) (by decide)).mono ?_
            rintro e w5 ⟨g, rfl, hg, hb5, hbl5⟩
            have hgd : g ≠ d := by have := H4.out.lt; simp at hg; omega
            have H5 := hide ((H4.out.alloc (.cells #[.int .u8 9] 5)).below hbl5)
            have G5 := hide hb5
            clear hb5 hbl5 hg
            go_wp2_with fail
            refine (ld_write H5.out j g _ (round64 [9]) _ (by rw [hjs.out]; omega) (by have := hl.out; omega) hst.out hjq.out (round64_len _) G5.out u8s_at hgd).mono ?_
            rintro e w6 ⟨rfl, h6, -⟩
            have H6 := hide h6
            have HD6 := hide (HD.out.wrote hd j (round64 [9]))
            clear h6 hgd
            go_wp2_with fail
            go_roundw
            case rel => exact ⟨j + 1, _, by omega, by go_num, H6.out, HD6.out⟩
            case measure => simp [intOf]; omega
          · go_wp2_with fail
            refine (ld_bytes _ (wr.heap.size + 1) _ 1 1 [9] (by_new wr 9) (by simp) (by decide)).mono ?_
            rintro e w5 ⟨g, rfl, hg, hb5, hbl5⟩
            have H5 := hide ((H4.out.alloc (.cells #[.int .u8 9] 5)).below hbl5)
            clear hb5 hbl5 hg
            go_wp2_with fail
            refine (ld_write_dead H5.out j _ 64 (by rw [hjs.out]; omega) (by have := hl.out; omega)).mono ?_
            rintro e w6 ⟨rfl, rfl⟩
            have HD6 := hide (HD.out.dead (show k ≤ j by omega))
            go_wp2_with fail
            go_roundw
            case rel => exact ⟨j + 1, _, by omega, by go_num, H5.out, HD6.out⟩
            case measure => simp [intOf]; omega
        ·
          by_cases hd : j < k
          · go_wp2_with fail
            refine (ld_barrier H4.out (by have := hl.out; omega) hst.out).mono ?_
            rintro e w6 ⟨rfl, h6, -⟩
            have H6 := hide h6
            have HD6 := hide (HD.out.barred hd)
            clear h6
            go_wp2_with fail
            go_roundw
            case rel => exact ⟨j + 1, _, by omega, by go_num, H6.out, HD6.out⟩
            case measure => simp [intOf]; omega
          · go_wp2_with fail
            refine (ld_barrier_dead H4.out (by have := hl.out; omega)).mono ?_
            rintro e w6 ⟨rfl, rfl⟩
            have HD6 := hide (HD.out.dead (show k ≤ j by omega))
            go_wp2_with fail
            go_roundw
            case rel => exact ⟨j + 1, _, by omega, by go_num, H4.out, HD6.out⟩
            case measure => simp [intOf]; omega
      · clear hb
        by_cases hd : j < k
        · go_wp2_with fail
          refine (ld_bytes _ (wr.heap.size + 1) _ 1 1 [9] (by_new wr 9) (by simp) (by decide)).mono ?_
          rintro e w5 ⟨g, rfl, hg, hb5, hbl5⟩
          have hgd : g ≠ d := by have := H4.out.lt; simp at hg; omega
          have H5 := hide ((H4.out.alloc (.cells #[.int .u8 9] 5)).below hbl5)
          have G5 := hide hb5
          clear hb5 hbl5 hg
          go_wp2_with fail
          refine (ld_write H5.out j g _ (round64 [9]) _ (by rw [hjs.out]; omega) (by have := hl.out; omega) hst.out hjq.out (round64_len _) G5.out u8s_at hgd).mono ?_
          rintro e w6 ⟨rfl, h6, -⟩
          have H6 := hide h6
          have HD6 := hide (HD.out.wrote hd j (round64 [9]))
          clear h6 hgd
          go_wp2_with fail
          go_roundw
          case rel => exact ⟨j + 1, _, by omega, by go_num, H6.out, HD6.out⟩
          case measure => simp [intOf]; omega
        · go_wp2_with fail
          refine (ld_bytes _ (wr.heap.size + 1) _ 1 1 [9] (by_new wr 9) (by simp) (by decide)).mono ?_
          rintro e w5 ⟨g, rfl, hg, hb5, hbl5⟩
          have H5 := hide ((H4.out.alloc (.cells #[.int .u8 9] 5)).below hbl5)
          clear hb5 hbl5 hg
          go_wp2_with fail
          refine (ld_write_dead H5.out j _ 64 (by rw [hjs.out]; omega) (by have := hl.out; omega)).mono ?_
          rintro e w6 ⟨rfl, rfl⟩
          have HD6 := hide (HD.out.dead (show k ≤ j by omega))
          go_wp2_with fail
          go_roundw
          case rel => exact ⟨j + 1, _, by omega, by go_num, H5.out, HD6.out⟩
          case measure => simp [intOf]; omega
    · have hjk : j = k + 3 := by omega
      subst hjk
      go_wp2_with fail
      refine (ld_read H4.out 59 (by rw [hjs.out]; omega)).mono ?_
      rintro e w5 ⟨g, rfl, hg, hb5, hbl5⟩
      have H5 := hide (H4.out.below hbl5)
      clear hb5 hbl5 hg
      go_wp2_with fail
      refine (ld_steps H5.out).mono ?_
      rintro e w6 ⟨rfl, rfl⟩
      rw [show (D.steps : Int) = (k : Int) by have := HD.out.s; omega]
      go_wp2_with fail
      refine (ld_arm_dead H5.out 5 (by decide) (by have := hl.out; omega)).mono ?_
      rintro e w6 ⟨rfl, rfl⟩
      go_wp2_with fail
      refine (ld_arm_no H5.out (-1) (by decide)).mono ?_
      rintro e w6 ⟨rfl, rfl⟩
      go_wp2_with fail
      go_ret
      exact ⟨rfl, B1.out.trans (H5.out.bel.mono B1.out.size)⟩
end Go.Proofs.Ytpcaaobninnkaaa
