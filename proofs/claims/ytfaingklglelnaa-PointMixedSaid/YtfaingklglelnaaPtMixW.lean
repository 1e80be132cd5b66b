/- The walk of marllaw17.PointMixed. -/
import Derived.Test.YtfaingklglelnaaPtAwake
import Derived.Test.YtfaingklglelnaaPtArg
import Derived.Test.YtfaingklglelnaaPtL
namespace Go.Proofs.Ytfaingklglelnaa
open Go.RowKit
attribute [local go_sem ↓] Go.wp_at_zero Go.wp_at_succ

theorem own_capP {w : World} {base n c : Nat} {A : Option Addr} {l : List UInt8} (h : OwnBy w base A n c l) : n ≤ c := by
  obtain ⟨_, _, e, h1, _⟩ := own_form h
  injection e with e1 e2 e3
  omega
theorem ptP_nat {e c n f : Int} (h : PtP e c n f) : ∃ a b s t : Nat, e = a ∧ c = b ∧ n = s ∧ f = t := by
  unfold PtP at h
  exact ⟨e.toNat, c.toNat, n.toNat, f.toNat, by omega, by omega, by omega, by omega⟩
theorem and8 (a : Nat) (h : a < 256) : bits BinOp.and IntKind.u8 (a : Int) 1 = ((a % 2 : Nat) : Int) := by
  show IntKind.u8.wrap ((BitVec.ofInt 8 (a : Int) &&& BitVec.ofInt 8 1).toNat : Int) = _
  have h1 : (BitVec.ofInt 8 (a : Int) &&& BitVec.ofInt 8 1).toNat = a % 2 := by
    rw [BitVec.toNat_and]
    have : (BitVec.ofInt 8 (a : Int)).toNat = a := by rw [BitVec.toNat_ofInt]; omega
    rw [this]
    show a &&& 1 = _
    rw [Nat.and_one_is_mod]
  rw [h1]
  simp [IntKind.wrap, IntKind.bits, IntKind.signed]
  omega
/-- The s-th bit. -/
def bit8 (x s : Nat) : Bool := bits BinOp.and IntKind.u8 ((x : Int) / 2 ^ s) 1 == 1
theorem bit8_eq {x s : Nat} (h : x < 256) : bit8 x s = decide ((x / 2 ^ s) % 2 = 1) := by
  unfold bit8
  have e : ((x : Int) / 2 ^ s) = ((x / 2 ^ s : Nat) : Int) := by simp
  rw [e, and8 _ (Nat.lt_of_le_of_lt (Nat.div_le_self _ _) h)]
  rw [Bool.eq_iff_iff, beq_iff_eq, decide_eq_true_iff]
  omega
theorem bits_all {x : Nat} (h : x < 256) : (∀ s, s < 4 → bit8 x s = true) ↔ x % 16 = 15 := by
  have e0 := bit8_eq (s := 0) h
  have e1 := bit8_eq (s := 1) h
  have e2 := bit8_eq (s := 2) h
  have e3 := bit8_eq (s := 3) h
  simp only [Nat.reducePow] at e0 e1 e2 e3
  constructor
  · intro hs
    have a0 := hs 0 (by decide)
    have a1 := hs 1 (by decide)
    have a2 := hs 2 (by decide)
    have a3 := hs 3 (by decide)
    rw [e0, decide_eq_true_iff] at a0
    rw [e1, decide_eq_true_iff] at a1
    rw [e2, decide_eq_true_iff] at a2
    rw [e3, decide_eq_true_iff] at a3
    omega
  · intro hx s hs
    have : s = 0 ∨ s = 1 ∨ s = 2 ∨ s = 3 := by omega
    rcases this with rfl | rfl | rfl | rfl
    · rw [e0, decide_eq_true_iff]; omega
    · rw [e1, decide_eq_true_iff]; omega
    · rw [e2, decide_eq_true_iff]; omega
    · rw [e3, decide_eq_true_iff]; omega
theorem bits_none {x : Nat} (h : x < 256) : (∀ s, s < 4 → bit8 x s = false) ↔ x % 16 = 0 := by
  have e0 := bit8_eq (s := 0) h
  have e1 := bit8_eq (s := 1) h
  have e2 := bit8_eq (s := 2) h
  have e3 := bit8_eq (s := 3) h
  simp only [Nat.reducePow] at e0 e1 e2 e3
  constructor
  · intro hs
    have a0 := hs 0 (by decide)
    have a1 := hs 1 (by decide)
    have a2 := hs 2 (by decide)
    have a3 := hs 3 (by decide)
    rw [e0, decide_eq_false_iff_not] at a0
    rw [e1, decide_eq_false_iff_not] at a1
    rw [e2, decide_eq_false_iff_not] at a2
    rw [e3, decide_eq_false_iff_not] at a3
    omega
  · intro hx s hs
    have : s = 0 ∨ s = 1 ∨ s = 2 ∨ s = 3 := by omega
    rcases this with rfl | rfl | rfl | rfl
    · rw [e0, decide_eq_false_iff_not]; omega
    · rw [e1, decide_eq_false_iff_not]; omega
    · rw [e2, decide_eq_false_iff_not]; omega
    · rw [e3, decide_eq_false_iff_not]; omega
/-- Sectors of two points of unlike Epoch or Count are a point's just if all are of one. -/
theorem mixed_law {p q : Pt} (hp : p.P) (hq : q.P) (hne : p.e ≠ q.e ∨ p.c ≠ q.c) {x : Nat} (hx : x < 256) :
    (x % 16 = 15 ∨ x % 16 = 0 → ∃ r, decP (mixB (bit8 x) p.bytes q.bytes) = some r) ∧ (¬ (x % 16 = 15 ∨ x % 16 = 0) → decP (mixB (bit8 x) p.bytes q.bytes) = none) := by
  have lp : p.bytes.length = 64 := ptBytes_length _ _ _ _
  have lq : q.bytes.length = 64 := ptBytes_length _ _ _ _
  constructor
  · rintro (h | h)
    · rw [mixB_all lp ((bits_all hx).2 h)]; exact ⟨_, decP_bytes hp⟩
    · rw [mixB_none lq ((bits_none hx).2 h)]; exact ⟨_, decP_bytes hq⟩
  · intro h
    have ⟨t, ht, hft⟩ : ∃ t, t < 4 ∧ bit8 x t = false := by
      apply Classical.byContradiction
      intro hn
      exact h (.inl ((bits_all hx).1 (fun s hs => by
        cases hfs : bit8 x s
        · exact absurd ⟨s, hs, hfs⟩ hn
        · rfl)))
    have ⟨s, hs, hfs⟩ : ∃ t, t < 4 ∧ bit8 x t = true := by
      apply Classical.byContradiction
      intro hn
      exact h (.inr ((bits_none hx).1 (fun s hs => by
        cases hfs : bit8 x s
        · rfl
        · exact absurd ⟨s, hs, hfs⟩ hn)))
    refine mix_no hp lq hs ht hfs hft ?_
    obtain ⟨h1, h2⟩ := sec_head hq ht
    rw [h1, h2]
    rcases hne with h | h
    · exact .inl (Ne.symm h)
    · exact .inr (Ne.symm h)
def mixUp (m : Nat → Bool) (a b : List UInt8) (k : Nat) : List UInt8 := (List.range k).flatMap (mixS m a b)
theorem mixUp_succ (m : Nat → Bool) (a b : List UInt8) (k : Nat) : mixUp m a b (k + 1) = mixUp m a b k ++ mixS m a b k := by simp [mixUp, List.range_succ]
theorem own_sec {w : World} {B c k : Nat} {A : Option Addr} {l : List UInt8} (h : By w B A 64 l) (hk : k < 4) (hc : 64 ≤ c) : By w B (cutA A c (16 * k)) 16 (sec l k) := by
  have h1 := h.tail (k := 16 * k) (c := c) (by omega) (by omega)
  have h2 := h1.head (k := 16) (by omega)
  rw [u8s_drop, u8s_take] at h2
  exact h2
theorem run_sec {w : World} {c k : Nat} {A : Option Addr} (hk : k < 4) (hc : 64 ≤ c) : (Instr.slice 24 (.slice A 64 c) (some (.int .i64 (16 * (k : Int)))) (some (.int .i64 (16 * (k : Int) + 16))) none).run Try.prog w = .ok (.slice (cutA A c (16 * k)) 16 (c - 16 * k)) w := by
  have := run_cut_lh (P := Try.prog) etyB A 64 c w (16 * k) (16 * k + 16) .i64 .i64 (by omega) (by omega)
  rw [show 16 * k + 16 - 16 * k = 16 by omega] at this
  have e1 : (16 * (k : Int)) = ((16 * k : Nat) : Int) := by omega
  have e2 : (16 * (k : Int) + 16) = ((16 * k + 16 : Nat) : Int) := by omega
  rw [e2, e1]
  exact this

set_option maxHeartbeats 4000000 in
set_option maxRecDepth 100000 in
theorem mixed_same (e c n f n' f' : Int) (x : Int) (w : World) :
    Calls Try.prog 6 #[ptV e c n f, ptV e c n' f', .int .u8 x] w fun r w' => r = .returned (.bool true) ∧ Below w.heap.size w w' := by
  have h1 : (e == e) = true := beq_self_eq_true e
  have h2 : (c == c) = true := beq_self_eq_true c
  go_enter Try.func6, Try.ntmps6
  go_wp2_with fail
  have K0 : Blk ((w.alloc (.cells (ptC e c n f) 23)).alloc (.cells (ptC e c n' f') 23)) w.heap.size 23 (ptC e c n f) := (Blk.new _ _ _).alloc _
  have K1 := Blk.new (w.alloc (.cells (ptC e c n f) 23)) 23 (ptC e c n' f')
  rw [World.size_alloc] at K1
  have B1 : Below w.heap.size w ((w.alloc (.cells (ptC e c n f) 23)).alloc (.cells (ptC e c n' f') 23)) := ((Below.refl _ _).alloc (Nat.le_refl _) _).alloc (by simp) _
  refine (awake17 _).mono ?_
  rintro r w1 ⟨rfl, hb⟩
  obtain ⟨c0, c1, -, -⟩ := ptb4 (K0.below hb)
  obtain ⟨d0, d1, -, -⟩ := ptb4 (K1.below hb)
  replace B1 := hide (B1.trans (hb.mono B1.size))
  clear hb K0 K1
  go_wp2_with fail
  refine (awake17 _).mono ?_
  rintro r w2 ⟨rfl, hb⟩
  replace B1 := hide (B1.out.trans (hb.mono B1.out.size))
  clear hb
  go_wp2_with fail
  go_ret
  exact ⟨rfl, B1.out⟩

set_option maxHeartbeats 4000000 in
set_option maxRecDepth 100000 in
theorem mixed_bad (e c n f e' c' n' f' : Int) (x : Int) (w : World) (hne : e ≠ e' ∨ c ≠ c') (hbad : ¬ PtP e c n f ∨ ¬ PtP e' c' n' f') :
    Calls Try.prog 6 #[ptV e c n f, ptV e' c' n' f', .int .u8 x] w fun r w' => r = .returned (.bool true) ∧ Below w.heap.size w w' := by
  have HBAD := hide hbad
  have HG : (e == e') = false ∨ ((e == e') = true ∧ (c == c') = false) := by
    by_cases he : e = e'
    · rcases hne with h | h
      · exact absurd he h
      · exact .inr ⟨by rw [beq_iff_eq]; exact he, by rw [beq_eq_false_iff_ne]; exact h⟩
    · exact .inl (by rw [beq_eq_false_iff_ne]; exact he)
  clear hne hbad
  have K0 := hide (show Blk ((w.alloc (.cells (ptC e c n f) 23)).alloc (.cells (ptC e' c' n' f') 23)) w.heap.size 23 (ptC e c n f) from (Blk.new _ _ _).alloc _)
  have K1 := Blk.new (w.alloc (.cells (ptC e c n f) 23)) 23 (ptC e' c' n' f')
  rw [World.size_alloc] at K1
  have K1 := hide K1
  have B1 : Below w.heap.size w ((w.alloc (.cells (ptC e c n f) 23)).alloc (.cells (ptC e' c' n' f') 23)) := ((Below.refl _ _).alloc (Nat.le_refl _) _).alloc (by simp) _
  have B1 := hide B1
  rcases HG with hg | ⟨hg, hg2⟩
  all_goals
    go_enter Try.func6, Try.ntmps6
    go_wp2_with fail
    refine (awake17 _).mono ?_
    rintro r w1 ⟨rfl, hb⟩
    replace K0 := hide (K0.out.below hb)
    replace K1 := hide (K1.out.below hb)
    replace B1 := hide (B1.out.trans (hb.mono B1.out.size))
    clear hb
    obtain ⟨c0, c1, c2, c3⟩ := ptb4 K0.out
    obtain ⟨d0, d1, d2, d3⟩ := ptb4 K1.out
    go_wp2_with fail
    clear c0 c1 c2 c3 d0 d1 d2 d3
    rcases HBAD.out with hbad | hbad
    · refine (enc_no e c n f _ hbad).mono ?_
      rintro r w2 ⟨rfl, hb⟩
      replace K1 := hide (K1.out.below hb)
      replace B1 := hide (B1.out.trans (hb.mono B1.out.size))
      clear hb hbad
      obtain ⟨d0, d1, d2, d3⟩ := ptb4 K1.out
      go_wp2_with fail
      by_cases h2 : PtP e' c' n' f'
      · have ⟨a, b, s, t, q1, q2, q3, q4⟩ := ptP_nat h2
        rw [q1, q2, q3, q4] at h2 ⊢
        clear q1 q2 q3 q4
        refine (enc_yes a b s t _ h2).mono ?_
        rintro r w3 ⟨A, k, rfl, hown, hb⟩
        replace B1 := hide (B1.out.trans (hb.mono B1.out.size))
        clear hb hown h2
        go_wp2_with fail
        go_ret
        exact ⟨rfl, B1.out⟩
      · refine (enc_no e' c' n' f' _ h2).mono ?_
        rintro r w3 ⟨rfl, hb⟩
        replace B1 := hide (B1.out.trans (hb.mono B1.out.size))
        clear hb h2
        go_wp2_with fail
        go_ret
        exact ⟨rfl, B1.out⟩
    · by_cases h2 : PtP e c n f
      · have ⟨a, b, s, t, q1, q2, q3, q4⟩ := ptP_nat h2
        rw [q1, q2, q3, q4] at h2 ⊢
        clear q1 q2 q3 q4
        refine (enc_yes a b s t _ h2).mono ?_
        rintro r w3 ⟨A, k, rfl, hown, hb⟩
        replace K1 := hide (K1.out.below hb)
        replace B1 := hide (B1.out.trans (hb.mono B1.out.size))
        clear hb hown h2
        obtain ⟨d0, d1, d2, d3⟩ := ptb4 K1.out
        go_wp2_with fail
        refine (enc_no e' c' n' f' _ hbad).mono ?_
        rintro r w3 ⟨rfl, hb⟩
        replace B1 := hide (B1.out.trans (hb.mono B1.out.size))
        clear hb
        go_wp2_with fail
        go_ret
        exact ⟨rfl, B1.out⟩
      · refine (enc_no e c n f _ h2).mono ?_
        rintro r w3 ⟨rfl, hb⟩
        replace K1 := hide (K1.out.below hb)
        replace B1 := hide (B1.out.trans (hb.mono B1.out.size))
        clear hb h2
        obtain ⟨d0, d1, d2, d3⟩ := ptb4 K1.out
        go_wp2_with fail
        refine (enc_no e' c' n' f' _ hbad).mono ?_
        rintro r w3 ⟨rfl, hb⟩
        replace B1 := hide (B1.out.trans (hb.mono B1.out.size))
        clear hb
        go_wp2_with fail
        go_ret
        exact ⟨rfl, B1.out⟩

set_option maxHeartbeats 4000000 in
set_option maxRecDepth 100000 in
theorem mixed_good (e c n f e' c' n' f' : Nat) (x : Nat) (hx : x < 256) (w : World) (hne : e ≠ e' ∨ c ≠ c') (hp : PtP e c n f) (hq : PtP e' c' n' f') :
    Calls Try.prog 6 #[ptV e c n f, ptV e' c' n' f', .int .u8 x] w fun r w' => r = .returned (.bool true) ∧ Below w.heap.size w w' := by
  have HL := hide (mixed_law (p := ⟨e, c, n, f⟩) (q := ⟨e', c', n', f'⟩) hp hq hne hx)
  have HP := hide hp
  have HQ := hide hq
  have HG : ((e : Int) == e') = false ∨ (((e : Int) == e') = true ∧ ((c : Int) == c') = false) := by
    by_cases he : e = e'
    · rcases hne with h | h
      · exact absurd he h
      · exact .inr ⟨by rw [beq_iff_eq]; omega, by rw [beq_eq_false_iff_ne]; omega⟩
    · exact .inl (by rw [beq_eq_false_iff_ne]; omega)
  clear hne hp hq
  have K0 := hide (show Blk ((w.alloc (.cells (ptC e c n f) 23)).alloc (.cells (ptC e' c' n' f') 23)) w.heap.size 23 (ptC e c n f) from (Blk.new _ _ _).alloc _)
  have K1 := Blk.new (w.alloc (.cells (ptC e c n f) 23)) 23 (ptC e' c' n' f')
  rw [World.size_alloc] at K1
  have K1 := hide K1
  have B1 : Below w.heap.size w ((w.alloc (.cells (ptC e c n f) 23)).alloc (.cells (ptC e' c' n' f') 23)) := ((Below.refl _ _).alloc (Nat.le_refl _) _).alloc (by simp) _
  have B1 := hide B1
  rcases HG with hg | ⟨hg, hg2⟩
  all_goals
    go_enter Try.func6, Try.ntmps6
    go_wp2_with fail
    refine (awake17 _).mono ?_
    rintro r w1 ⟨rfl, hb⟩
    replace K0 := hide (K0.out.below hb)
    replace K1 := hide (K1.out.below hb)
    replace B1 := hide (B1.out.trans (hb.mono B1.out.size))
    clear hb
    obtain ⟨c0, c1, c2, c3⟩ := ptb4 K0.out
    obtain ⟨d0, d1, d2, d3⟩ := ptb4 K1.out
    go_wp2_with fail
    clear c0 c1 c2 c3 d0 d1 d2 d3
    refine (enc_yes e c n f _ HP.out).mono ?_
    rintro r w2 ⟨A1, k1, rfl, ho, hb⟩
    have O1 := hide (OwnBy.by ho)
    have O1c := hide (own_capP ho)
    replace K1 := hide (K1.out.below hb)
    replace B1 := hide (B1.out.trans (hb.mono B1.out.size))
    clear hb ho
    obtain ⟨d0, d1, d2, d3⟩ := ptb4 K1.out
    go_wp2_with fail
    clear d0 d1 d2 d3
    refine (enc_yes e' c' n' f' _ HQ.out).mono ?_
    rintro r w3 ⟨A2, k2, rfl, ho, hb⟩
    have O2 := hide (OwnBy.by ho)
    have O2c := hide (own_capP ho)
    replace O1 := hide ((O1.out.below hb).more hb.size)
    replace B1 := hide (B1.out.trans (hb.mono B1.out.size))
    clear hb ho K0 K1 hg
    obtain ⟨la, hla⟩ : ∃ l, l = ptBytes e c n f := ⟨_, rfl⟩
    obtain ⟨lb, hlb⟩ : ∃ l, l = ptBytes e' c' n' f' := ⟨_, rfl⟩
    replace HL : Hid ((x % 16 = 15 ∨ x % 16 = 0 → ∃ r, decP (mixB (bit8 x) la lb) = some r) ∧ (¬ (x % 16 = 15 ∨ x % 16 = 0) → decP (mixB (bit8 x) la lb) = none)) := hide (by rw [hla, hlb]; exact HL.out)
    rw [← hla] at O1
    rw [← hlb] at O2
    have ML := hide (fun k (hk : k < 4) => mixS_length (m := bit8 x) (a := la) (b := lb) (s := k) (by rw [hla]; exact ptBytes_length _ _ _ _) (by rw [hlb]; exact ptBytes_length _ _ _ _) hk)
    clear hla hlb
    go_wp2_with fail
    go_loopw [11, 12] (fun y i wr => ∃ (k : Nat) (A : Option Addr) (d : Nat), k ≤ 4 ∧ i = .int .i64 (k : Int) ∧ y = .slice A (16 * k) d ∧ OwnBy wr w3.heap.size A (16 * k) d (mixUp (bit8 x) la lb k) ∧ Below w3.heap.size w3 wr) (fun _ i _ => 4 - (intOf i).toNat)
    case atStart => exact ⟨0, none, 0, by omega, rfl, rfl, World.ownsRow_nil _ _ _ _, Below.refl _ _⟩
    case round =>
      obtain ⟨k, A, d, hk, rfl, rfl, ho, hb⟩ := hrel
      have HO := hide ho
      have HB := hide hb
      clear ho hb
      by_cases hlt : k < 4
      · have y1 := hide (own_sec (k := k) ((O1.out.below HB.out)) hlt O1c.out)
        have y2 := hide (own_sec (k := k) ((O2.out.below HB.out)) hlt O2c.out)
        have sl1 := run_sec (k := k) (c := k1) (A := A1) (w := wr) hlt O1c.out
        have sl2 := run_sec (k := k) (c := k2) (A := A2) (w := wr) hlt O2c.out
        have hmu := hide (mixUp_succ (bit8 x) la lb k)
        have hbk : (bits BinOp.and IntKind.u8 ((x : Int) / 2 ^ k) 1 == 1) = bit8 x k := rfl
        rcases hbit : bit8 x k with _ | _
        · skip
          have hms : Hid (mixS (bit8 x) la lb k = sec lb k) := hide (by unfold mixS; rw [hbit]; rfl)
          rw [hms.out] at hmu
          rw [hbit] at hbk
          clear hbit
          go_wp2_with (
            at_builtin
            refine wpList_app _ rfl (.tmp 66) (.tmp 73) _ rfl etyB w3.heap.size (.slice A (16 * k) d) (16 * k) (u8s (mixUp (bit8 x) la lb k)) rfl HO.out w3.heap.size (cutA A2 k2 (16 * k)) 16 (k2 - 16 * k) (u8s (sec lb k)) rfl
              y2.out (u8s_one _) (by omega) HB.out.size ?_
            intro A4 d4 w4 hown hg _
            rw [← u8s_append] at hown
            have HO4 := hide hown
            have HB4 := hide (HB.out.grown hg HB.out.size (fun k hk => (HO.out.lt k hk).1))
            clear hown hg)
          go_roundw
          case rel =>
            refine ⟨k + 1, A4, d4, by omega, by go_num, by rw [Nat.mul_succ], ?_, HB4.out⟩
            rw [hmu.out, Nat.mul_succ]
            exact HO4.out
          case measure => simp [intOf]; omega
        · skip
          have hms : Hid (mixS (bit8 x) la lb k = sec la k) := hide (by unfold mixS; rw [hbit]; rfl)
          rw [hms.out] at hmu
          rw [hbit] at hbk
          clear hbit
          go_wp2_with (
            at_builtin
            refine wpList_app _ rfl (.tmp 57) (.tmp 64) _ rfl etyB w3.heap.size (.slice A (16 * k) d) (16 * k) (u8s (mixUp (bit8 x) la lb k)) rfl HO.out w3.heap.size (cutA A1 k1 (16 * k)) 16 (k1 - 16 * k) (u8s (sec la k)) rfl
              y1.out (u8s_one _) (by omega) HB.out.size ?_
            intro A4 d4 w4 hown hg _
            rw [← u8s_append] at hown
            have HO4 := hide hown
            have HB4 := hide (HB.out.grown hg HB.out.size (fun k hk => (HO.out.lt k hk).1))
            clear hown hg)
          go_roundw
          case rel =>
            refine ⟨k + 1, A4, d4, by omega, by go_num, by rw [Nat.mul_succ], ?_, HB4.out⟩
            rw [hmu.out, Nat.mul_succ]
            exact HO4.out
          case measure => simp [intOf]; omega
      · obtain rfl : k = 4 := by omega
        have HO4 := hide (show OwnBy wr w3.heap.size A 64 d (mixB (bit8 x) la lb) from HO.out)
        have HBY := hide (OwnBy.by HO4.out)
        have hcap := own_capP HO4.out
        clear HO
        go_wp2_with fail
        refine (dec_any A 64 d _ _ _ HBY.out (Nat.le_refl _) hcap (by decide)).mono ?_
        rintro r w4 ⟨rfl, hb⟩
        have B4 := hide (HB.out.trans (hb.mono HB.out.size))
        clear hb HBY HO4 hcap
        have hx0 : (0 : Int) ≤ x := by omega
        by_cases h15 : x % 16 = 15
        · obtain ⟨p, hp⟩ := HL.out.1 (.inl h15)
          have hx16 : ((x : Int) % 16 == 0) = false := by rw [beq_eq_false_iff_ne]; omega
          have hx15 : ((x : Int) % 16 == 15) = true := by rw [beq_iff_eq]; omega
          rw [decV_some hp]
          clear hp h15
          go_wp2_with fail
          go_ret
          exact ⟨rfl, B1.out.trans ((B4.out.alloc B4.out.size _).mono B1.out.size)⟩
        · by_cases h0 : x % 16 = 0
          · obtain ⟨p, hp⟩ := HL.out.1 (.inr h0)
            have hx16 : ((x : Int) % 16 == 0) = true := by rw [beq_iff_eq]; omega
            rw [decV_some hp]
            clear hp h15 h0
            go_wp2_with fail
            go_ret
            exact ⟨rfl, B1.out.trans ((B4.out.alloc B4.out.size _).mono B1.out.size)⟩
          · have hp := HL.out.2 (by omega)
            have hx16 : ((x : Int) % 16 == 0) = false := by rw [beq_eq_false_iff_ne]; omega
            have hx15 : ((x : Int) % 16 == 15) = false := by rw [beq_eq_false_iff_ne]; omega
            rw [decV_none hp]
            clear hp h15 h0
            go_wp2_with fail
            go_ret
            exact ⟨rfl, B1.out.trans ((B4.out.alloc B4.out.size _).mono B1.out.size)⟩
theorem mixed_all (e c n f e' c' n' f' : Int) (x : Nat) (hx : x < 256) (w : World) :
    Calls Try.prog 6 #[ptV e c n f, ptV e' c' n' f', .int .u8 x] w fun r w' => r = .returned (.bool true) ∧ Below w.heap.size w w' := by
  by_cases hs : e = e' ∧ c = c'
  · obtain ⟨rfl, rfl⟩ := hs
    exact mixed_same e c n f n' f' x w
  · have hne : e ≠ e' ∨ c ≠ c' := by omega
    by_cases h1 : PtP e c n f
    · by_cases h2 : PtP e' c' n' f'
      · obtain ⟨a, b, s, t, rfl, rfl, rfl, rfl⟩ := ptP_nat h1
        obtain ⟨a', b', s', t', rfl, rfl, rfl, rfl⟩ := ptP_nat h2
        exact mixed_good a b s t a' b' s' t' x hx w (by omega) h1 h2
      · exact mixed_bad e c n f e' c' n' f' x w hne (.inr h2)
    · exact mixed_bad e c n f e' c' n' f' x w hne (.inl h1)
end Go.Proofs.Ytfaingklglelnaa
