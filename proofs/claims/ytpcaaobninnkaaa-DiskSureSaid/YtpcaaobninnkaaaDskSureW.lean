/- The walk of marllaw02.DiskSure. -/
import Derived.Test.YtpcaaobninnkaaaDskSureM
import Derived.Test.YtpcaaobninnkaaaDskAwake
import Derived.Test.YtpcaaobninnkaaaRowsR
import Derived.Test.YtpcaaobninnkaaaEty8
namespace Go.Proofs.Ytpcaaobninnkaaa
open Go.RowKit
attribute [local go_sem ↓] Go.wp_at_zero Go.wp_at_succ

theorem ety41 : Ety Try.prog 41 22 (.slice none 0 0) 24 := Ety.mk' Try.underlying41 (by kernel_rfl) rfl (by omega)
theorem by_new2 (w : World) (x y : UInt8) (a b : Int) (ha : a = (x.toNat : Int)) (hb : b = (y.toNat : Int)) : By (w.alloc (.cells #[.int .u8 a, .int .u8 b] 5)) (w.heap.size + 1) (some ⟨w.heap.size, 0, none⟩) 2 [x, y] := by
  subst ha hb
  have := by_blk (n := 2) (Blk.new w 5 (u8s [x, y]).toArray) rfl
  rwa [World.size_alloc] at this
/-- The rows behind the first i. -/
def hsUp (i : Nat) : List (List (List UInt8)) := (List.range 6).map fun j => if j < i then [fill6 j] else []
theorem hsUp_get {i j : Nat} (hj : j < 6) : (hsUp i)[j]? = some (if j < i then [fill6 j] else []) := by simp [hsUp, hj]
theorem hsUp_set {i : Nat} (hi : i < 6) : (hsUp i).set i [fill6 i] = hsUp (i + 1) := by
  apply List.ext_getElem?
  intro j
  rw [List.getElem?_set]
  by_cases hj : j < 6
  · rw [hsUp_get hj, hsUp_get hj]
    by_cases e : i = j
    · subst e; rw [if_pos rfl, if_pos (by simp [hsUp]; exact hi), if_pos (by omega)]
    · rw [if_neg e]
      by_cases h : j < i
      · rw [if_pos h, if_pos (by omega)]
      · rw [if_neg h, if_neg (by omega)]
  · have h1 : (hsUp i)[j]? = none := List.getElem?_eq_none (by simp [hsUp]; omega)
    have h2 : (hsUp (i + 1))[j]? = none := List.getElem?_eq_none (by simp [hsUp]; omega)
    rw [h1, h2, if_neg (by omega)]
theorem nil6 (w : World) (base : Nat) (hb : base ≤ w.heap.size) : HasM (w.alloc (.cells #[.slice none 0 0, .slice none 0 0, .slice none 0 0, .slice none 0 0, .slice none 0 0, .slice none 0 0] 43)) base w.heap.size 6 (List.replicate 6 (.slice none 0 0)) (hsUp 0) := by
  refine ⟨Blk.new w _ _, hb, rfl, rfl, fun i v h _ hv hh => ?_, fun i j v v' _ _ _ hv _ b hb => ?_⟩
  · have hi := (List.getElem?_eq_some_iff.1 hv).1
    rw [List.length_replicate] at hi
    rw [hsUp_get hi, if_neg (by omega)] at hh
    cases hh
    rw [List.getElem?_replicate, if_pos hi] at hv
    cases hv
    exact ⟨[], World.ownsRow_nil _ _ _ _, fun j b hb => by simp at hb⟩
  · have hi := (List.getElem?_eq_some_iff.1 hv).1
    rw [List.length_replicate] at hi
    rw [List.getElem?_replicate, if_pos hi] at hv
    cases hv
    cases hb
/-- A row of one. -/
theorem row_one {w : World} {base q : Nat} {b : List UInt8} (hb : base ≤ w.heap.size) (hl : b.length = 64) (hq : base ≤ q) (hB : Blk w q 5 (u8s b).toArray) : RowS (w.alloc (.cells #[.slice (some ⟨q, 0, none⟩) 64 64] 22)) base (.slice (some ⟨w.heap.size, 0, none⟩) 1 1) [b] := by
  refine ⟨[.slice (some ⟨q, 0, none⟩) 64 64], own_built (w := w) (e := 22) #[.slice (some ⟨q, 0, none⟩) 64 64] hb rfl (by omega), fun j c hc => ?_⟩
  have hj : j = 0 := by have := (List.getElem?_eq_some_iff.1 hc).1; simpa using this
  subst hj
  cases hc
  exact ⟨hl, q, rfl, hq, hB.alloc _⟩
theorem mod6 (x : Nat) (hx : x < 256) : IntKind.i64.wrap (((x : Int)).tmod 6) = ((x % 6 : Nat) : Int) := by
  rw [Int.tmod_eq_emod_of_nonneg (by omega), IntKind.wrap_i64]; omega

theorem HasM.fresh {w : World} {base g : Nat} {vs : List Value} {hs : List (List (List UInt8))} (h : HasM w base g 6 vs hs) {j : Nat} {v : Value} (hv : vs[j]? = some v) : ∀ b, v.ownBlock = some b → b < w.heap.size := fun b hb => by
  have hj := (List.getElem?_eq_some_iff.1 hv).1
  rw [h.nv] at hj
  have hx : hs[j]? = some (hs[j]'(by rw [h.nh]; exact hj)) := List.getElem?_eq_getElem _
  obtain ⟨xs, ho, -⟩ := h.row j v _ (by omega) hv hx
  obtain ⟨-, cs, hB⟩ := own_blk ho hb
  exact hB.lt
theorem HasM.at {w : World} {base g : Nat} {vs : List Value} {hs : List (List (List UInt8))} (h : HasM w base g 6 vs hs) {k : Nat} (hk : k < 6) : ∃ A c x, hs[k]? = some x ∧ vs[k]? = some (.slice A x.length c) ∧ x.length ≤ c ∧ RowS w base (.slice A x.length c) x ∧ w.cell? ⟨g, k, none⟩ = some (.slice A x.length c) ∧ w.frozen? ⟨g, k, none⟩ = false := by
  have hv : vs[k]? = some (vs[k]'(by rw [h.nv]; exact hk)) := List.getElem?_eq_getElem _
  have hx : hs[k]? = some (hs[k]'(by rw [h.nh]; exact hk)) := List.getElem?_eq_getElem _
  have hr := h.row k _ _ (by omega) hv hx
  have hc := h.hg.cell k
  rw [List.getElem?_toArray, hv] at hc
  obtain ⟨xs, ho, h2⟩ := hr
  obtain ⟨A, c, e, hcap, -⟩ := own_form ho
  rw [e] at hv hc ho
  exact ⟨A, c, _, hx, hv, hcap, ⟨xs, ho, h2⟩, hc, h.hg.frozen k⟩
theorem LD.cellM {w0 w : World} {d g base : Nat} {D : Dsk} {vs : List Value} {hs : List (List (List UInt8))} {e : Nat} (h : LD w0 w d D) (hM : HasM w base g e vs hs) (hb : w0.heap.size ≤ base) (k : Nat) (v : Value) : LD w0 (w.setCell ⟨g, k, none⟩ v) d D :=
  h.kpOut (gs := [g]) ((Kp.refl [g] w).set (p := ⟨g, k, none⟩) (.inl (by simp)) v) (fun q hq => by
    rw [List.mem_singleton] at hq
    subst hq
    exact ⟨Nat.le_trans hb hM.gb, out_of_type h hM.hg (by decide)⟩)

theorem HasM.cellK {w : World} {base g e : Nat} {vs : List Value} {hs : List (List (List UInt8))} (h : HasM w base g e vs hs) {k : Nat} {v : Value} (hv : vs[k]? = some v) : w.cell? ⟨g, k, none⟩ = some v := by
  have hc := h.hg.cell k
  rwa [List.getElem?_toArray, hv] at hc
theorem sl_newS (w : World) (l : List Value) (t : TypeId) : Sl (w.alloc (.cells l.toArray t)) (w.heap.size + 1) (some ⟨w.heap.size, 0, none⟩) l.length l := by
  refine ⟨rfl, fun i u hu => ⟨_, rfl, by simp, ?_⟩⟩
  rw [Addr.add_mid, Nat.zero_add, (Blk.new w _ _).cell]
  simpa using hu

/-- Has one of the first n this sector? -/
def anyS (xs : List (List UInt8)) (rd : List UInt8) (q n : Nat) : Bool := (xs.take n).any fun b => decide (sec rd q = sec b q)
theorem anyS_succ {xs : List (List UInt8)} {rd : List UInt8} {q n : Nat} {b : List UInt8} (h : xs[n]? = some b) : anyS xs rd q (n + 1) = (anyS xs rd q n || decide (sec rd q = sec b q)) := by
  unfold anyS
  rw [List.take_add_one, h]
  simp
theorem anyS_all {xs : List (List UInt8)} {rd : List UInt8} {q : Nat} (h : ∃ b ∈ xs, sec rd q = sec b q) : anyS xs rd q xs.length = true := by
  obtain ⟨b, hb, he⟩ := h
  unfold anyS
  rw [List.take_length, List.any_eq_true]
  exact ⟨b, hb, decide_eq_true he⟩
theorem run_secS {w : World} {s q : Nat} {A : Option Addr} (hs : s = 16 * q) (hq : q < 4) : (Instr.slice 22 (.slice A 64 64) (some (.int .i64 (s : Int))) (some (.int .i64 ((s : Int) + 16))) none).run Try.prog w = .ok (.slice (cutA A 64 s) 16 (64 - s)) w := by
  have := run_cut_lh (P := Try.prog) etyB A 64 64 w s (s + 16) .i64 .i64 (by omega) (by omega)
  rw [show s + 16 - s = 16 by omega] at this
  exact this
theorem by_secS {w : World} {B s q : Nat} {A : Option Addr} {l : List UInt8} (hs : s = 16 * q) (h : By w B A 64 l) (hq : q < 4) : By w B (cutA A 64 s) 16 (sec l q) := by
  have h1 := h.tail (k := s) (c := 64) (by omega) (by omega)
  have h2 := h1.head (k := 16) (by omega)
  rw [u8s_drop, u8s_take] at h2
  unfold sec
  rw [← hs]
  exact h2
theorem crashed_lenS {D : Dsk} (h : D.Ok) (f : Nat → Nat → Bool) (cap : Nat) (pad : Array Value) : (D.crashed f cap pad).sure.length = D.sure.length :=
  (crashN_64 (f := f) (n := D.sure.length) ⟨rfl, h.b⟩ (fun x hx => h.q x hx) _ (Nat.le_refl _)).1

set_option maxHeartbeats 4000000 in
set_option maxRecDepth 100000 in
theorem sure_all (A : Option Addr) (m c : Nat) (rs : List RowB) (Ak : Option Addr) (nk ck : Nat) (ks : List Bool) (a0 a1 : Int) (w : World) (h0 : Sl w w.heap.size A m (rs.map RowB.v)) (hr0 : ∀ r ∈ rs, By w w.heap.size r.a r.n r.l ∧ r.n ≤ r.c ∧ r.c ≤ 9223372036854775807) (hm : m ≤ 9223372036854775807) (hk0 : Sl w w.heap.size Ak nk (ks.map Value.bool)) (hnk : nk ≤ 9223372036854775807) :
    Calls Try.prog 5 #[.slice A m c, .slice Ak nk ck, .agg #[.int .i64 a0, .int .i64 a1]] w fun e w' => e = .returned (.bool true) ∧ Below w.heap.size w w' := by
  have H0 := hide h0
  have HR := hide hr0
  have HK := hide hk0
  have B5 := hide ((Below.refl w.heap.size w).alloc (Nat.le_refl _) (.cells #[.int .i64 a0, .int .i64 a1] 42))
  have K5 := hide (Blk.new w 42 #[.int .i64 a0, .int .i64 a1])
  clear h0 hr0 hk0
  go_enter Try.func5, Try.ntmps5
  go_upto_region 1 with fail
  generalize w.alloc (.cells #[.int .i64 a0, .int .i64 a1] 42) = W at *
  go_wp2_with fail
  refine (awake_any _).mono ?_
  rintro e w1 ⟨rfl, hb1⟩
  have B1 := hide (B5.out.trans (hb1.mono B5.out.size))
  have K1 := hide (K5.out.below hb1)
  clear hb1 B5 K5
  go_wp2_with fail
  refine (ld_new w1 6 (by decide) (by decide)).mono ?_
  rintro e w2 ⟨d, rfl, h2⟩
  have H2 := hide h2
  clear h2
  go_wp2_with fail
  go_loopw [9] (fun x wr => ∃ j : Nat, j ≤ 6 ∧ x = .int .i64 (j : Int) ∧ LD w1 wr d (up6 j)) (fun x _ => 6 - (intOf x).toNat)
  case atStart => exact ⟨0, by omega, rfl, H2.out⟩
  case round =>
    clear H2
    obtain ⟨j, hj, rfl, h3⟩ := hrel
    have H3 := hide h3
    clear h3
    have NU := hide (up6_nums j)
    by_cases hlt : j < 6
    · go_wp2_with fail
      refine (ld_bytes _ (wr.heap.size + 1) _ 2 2 [UInt8.ofNat (j + 1), 7] (by_new2 wr _ 7 _ _ (by rw [UInt8.toNat_ofNat']; first | omega | (simp [IntKind.wrap, IntKind.bits, IntKind.signed]; omega)) rfl) (by simp) (by decide)).mono ?_
      rintro e w3 ⟨q, rfl, hq, hbq, hb⟩
      have hbl : Below wr.heap.size wr w3 := ((Below.refl _ _).alloc (Nat.le_refl _) (.cells _ 5)).trans (hb.mono (by simp))
      have H4 := hide (H3.out.below hbl)
      have Q4 := hide hbq
      have hqd : q ≠ d := by have := H3.out.lt; have := hbl.size; simp at hq; omega
      clear hbl hb hbq hq H3
      go_wp2_with fail
      refine (ld_write H4.out j q _ (fill6 j) _ (by rw [NU.out.2.2.2]; exact hlt) (by rw [NU.out.2.2.1]; decide) (by rw [NU.out.1]; omega) (by rw [NU.out.2.1]; omega) (round64_len _) Q4.out u8s_at hqd).mono ?_
      rintro e w4 ⟨rfl, h5, -⟩
      have H5 := hide (show LD w1 w4 d (up6 (j + 1)) from h5)
      clear h5 H4 Q4 hqd
      go_wp2_with fail
      go_roundw
      case rel => exact ⟨j + 1, by omega, by go_num, H5.out⟩
      case measure => simp [intOf]; omega
    · obtain rfl : j = 6 := by omega
      go_wp2_with fail
      refine (ld_barrier H3.out (by rw [NU.out.2.2.1]; decide) (by rw [NU.out.1]; decide)).mono ?_
      rintro e w4 ⟨rfl, h4, -⟩
      have H4 := hide (show LD w1 w4 d sure6 from h4)
      have hw4 := H4.out.bel.size
      clear h4 H3 NU hlt hj
      go_wp2_with fail
      have M5 := hide (nil6 w4 w1.heap.size hw4)
      have H5 := hide (H4.out.alloc (.cells #[.slice none 0 0, .slice none 0 0, .slice none 0 0, .slice none 0 0, .slice none 0 0, .slice none 0 0] 43))
      obtain ⟨g, hg⟩ : ∃ g, g = w4.heap.size := ⟨_, rfl⟩
      rw [← hg] at M5 ⊢
      clear hg H4 hw4
      generalize w4.alloc _ = w5 at *
      go_loopw [51] (fun x wz => ∃ i : Nat, i ≤ 6 ∧ x = .int .i64 (i : Int) ∧ LD w1 wz d sure6 ∧ ∃ vs, HasM wz w1.heap.size g 6 vs (hsUp i)) (fun x _ => 6 - (intOf x).toNat)
      case atStart => exact ⟨0, by omega, rfl, H5.out, _, M5.out⟩
      case round =>
        clear H5 M5
        obtain ⟨i, hi, rfl, h5, vs, m5⟩ := hrel
        have H5 := hide h5
        have M5 := hide m5
        clear h5 m5
        by_cases hlt : i < 6
        · have hi6 : (i : Int) < 6 := by omega
          go_wp2_with fail
          refine (ld_bytes _ (wr.heap.size + 1) _ 2 2 [UInt8.ofNat (i + 1), 7] (by_new2 wr _ 7 _ _ (by rw [UInt8.toNat_ofNat']; first | omega | (simp [IntKind.wrap, IntKind.bits, IntKind.signed]; omega)) rfl) (by simp) (by decide)).mono ?_
          rintro e w6 ⟨q, rfl, hq, hbq, hb⟩
          have hbl : Below wr.heap.size wr w6 := ((Below.refl _ _).alloc (Nat.le_refl _) (.cells _ 5)).trans (hb.mono (by simp))
          have H6 := hide (H5.out.below hbl)
          have M6 := hide (M5.out.below hbl)
          have Q6 := hide (show Blk w6 q 5 (u8s (fill6 i)).toArray from hbq)
          have hqb : Hid (w1.heap.size ≤ q) := hide (Nat.le_trans H5.out.bel.size (Nat.le_trans (by simp) hq))
          clear hbl hb hbq hq H5 M5
          have M7 := hide (M6.out.alloc (.cells #[.slice (some ⟨q, 0, none⟩) 64 64] 22))
          have H7 := hide (H6.out.alloc (.cells #[.slice (some ⟨q, 0, none⟩) 64 64] 22))
          have R7 := hide (row_one (w := w6) H6.out.bel.size (round64_len _) hqb.out Q6.out)
          have FR := hide (fun j v (_ : j ≠ i) (hv : vs[j]? = some v) b (hb : (Value.slice (some ⟨w6.heap.size, 0, none⟩) 1 1).ownBlock = some b) (hb2 : v.ownBlock = some b) => show False from by
            have := M6.out.fresh hv b hb2
            simp only [Value.ownBlock, Option.some.injEq] at hb
            omega)
          obtain ⟨A7, c7, x7, -, -, -, -, e7, f7⟩ := M7.out.at hlt
          go_wp2_with fail
          go_roundw
          case rel => exact ⟨i + 1, by omega, by go_num, H7.out.cellM M7.out (Nat.le_refl _) _ _, _, by rw [← hsUp_set hlt]; exact M7.out.put hlt (.inl rfl) R7.out FR.out⟩
          case measure => simp [intOf]; omega
        · obtain rfl : i = 6 := by omega
          have NS := hide sure6_nums
          have HS6 : Hid (∀ k, k < 6 → (hsUp 6)[k]? = some (hsOf sure6 k)) := hide (fun k hk => by rw [hsUp_get hk, if_pos hk, sure6_hs k hk])
          obtain ⟨hs0, hhs⟩ : ∃ h, h = hsUp 6 := ⟨_, rfl⟩
          rw [← hhs] at M5 HS6
          clear hhs hlt hi
          obtain ⟨D0, hD⟩ : ∃ D, D = sure6 := ⟨_, rfl⟩
          rw [← hD] at H5 NS HS6
          clear hD
          go_wp2_with fail
          go_loopw [12] (fun x wz => ∃ (i : Nat) (D : Dsk) (vs : List Value) (hs : List (List (List UInt8))), i ≤ m ∧ i ≤ 30 ∧ x = .int .i64 (i : Int) ∧ LD w1 wz d D ∧ HasM wz w1.heap.size g 6 vs hs ∧ (D.steps = 7 + i ∨ D.steps ≤ 7 + i) ∧ D.queue.length ≤ i ∧ D.left = -1 ∧ D.sure.length = 6 ∧ ∀ k, k < 6 → hs[k]? = some (hsOf D k)) (fun x _ => m - (intOf x).toNat)
          case atStart => exact ⟨0, D0, vs, hs0, by omega, by omega, rfl, H5.out, M5.out, .inl (by rw [NS.out.1]), by rw [NS.out.2.1]; exact Nat.le_refl _, NS.out.2.2.1, NS.out.2.2.2, HS6.out⟩
          case round =>
            clear H5 M5 NS HS6 D0 hs0 vs
            obtain ⟨i, D, vs, hs, him, hi, rfl, h5, m5, q1, q2, q3, q4, q5⟩ := hrel
            have H5 := hide h5
            have M5 := hide m5
            have Q1 := hide (show D.steps ≤ 7 + i by omega)
            have Q2 := hide q2
            have Q3 := hide q3
            have Q4 := hide q4
            have Q5 := hide q5
            clear h5 m5 q1 q2 q3 q4 q5
            have BB := hide (B1.out.trans (H5.out.bel.mono B1.out.size))
            by_cases hlt : i < m ∧ i < 30
            · obtain ⟨hlt, hlt3⟩ := hlt
              obtain ⟨ad, u, hA, -, hu, hcu⟩ := (H0.out.below BB.out).get hlt
              rw [List.getElem?_map, Option.map_eq_some_iff] at hu
              obtain ⟨r, hr, rfl⟩ := hu
              have RM := hide (List.mem_of_getElem? hr)
              obtain ⟨ra, rn, rc, rl⟩ := r
              have RB := hide ((HR.out _ RM.out).1.below BB.out)
              have RC := hide (HR.out _ RM.out).2
              simp only at RB RC
              unfold RowB.v at hcu
              simp only at hcu
              have HRR := hide hr
              clear hr RM
              subst hA
              by_cases hr0 : rn = 0
              · subst hr0
                go_wp2_with fail
                go_roundw
                case rel => exact ⟨i + 1, D, vs, hs, by omega, by omega, by go_num, H5.out, M5.out, .inr (by have := Q1.out; omega), by have := Q2.out; omega, Q3.out, Q4.out, Q5.out⟩
                case measure => simp [intOf]; omega
              · have hrn : ((rn : Int) == 0) = false := by rw [beq_eq_false_iff_ne]; omega
                obtain ⟨hl0, ad0, hA0, hc0⟩ := By.get RB.out (k := 0) (by omega)
                subst hA0
                obtain ⟨x, hx⟩ : ∃ x : UInt8, x = rl[0] := ⟨_, rfl⟩
                rw [← hx] at hc0
                have hx256 := x.toNat_lt
                obtain ⟨xn, hxn⟩ : ∃ n, n = x.toNat := ⟨_, rfl⟩
                rw [← hxn] at hc0 hx256
                have hc1 : wr.cell? ad0 = some (.int .u8 (xn : Int)) := by have e : ad0.add 0 = ad0 := by { cases ad0; unfold Addr.add; split <;> simp_all }; rw [e] at hc0; exact hc0
                clear hx hxn hl0
                obtain ⟨k, hk⟩ : ∃ k, k = xn % 6 := ⟨_, rfl⟩
                have hk6 : k < 6 := by omega
                have hmod : (xn : Int) % 6 = (k : Int) := by omega
                have hki : (k : Int) < 6 := by omega
                clear hk
                go_upto_region 25 with fail
                obtain ⟨Ak, ck, xk, hxk, hvk, hck, hrk, ek, fk⟩ := M5.out.at hk6
                have HXK := hide hxk
                have HVK := hide hvk
                obtain ⟨xs, hox, hxe⟩ := hrk
                have HO := hide hox
                have HXE := hide hxe
                have hnk : Hid (xk = hsOf D k) := hide (by have := Q5.out k hk6; rw [hxk] at this; exact Option.some.inj this)
                have hlk : Hid (xk.length ≤ 31) := hide (by
                  rw [hnk.out]
                  unfold hsOf
                  have h1 := List.length_filter_le (fun x : Nat × List UInt8 => x.1 == k) D.queue
                  have h2 := Q2.out
                  rw [List.length_cons, List.length_map]
                  omega)
                clear hxk hvk hox hxe
                have hk0 : (0 : Int) ≤ (k : Int) := by omega
                have HW := hide (show w.heap.size ≤ wr.drew.heap.size from BB.out.size)
                have HW1 := hide (show w1.heap.size ≤ wr.drew.heap.size from H5.out.bel.size)
                have RN := hide (show rn ≤ 9223372036854775807 by have := RC.out; omega)
                have CL := hide (fun (w' : World) (hb : Below wr.heap.size wr w') => (M5.out.below hb).cellK HVK.out)
                simp only [hmod]
                refine wp_region_noPanic ?_
                refine wp_region_held_drew (S := (fun _ => True)) (by kernel_rfl) ?_ (fun hHeld => ?_)
                · ((try dsimp only) <;> (first | trivial | assumption | go_keep))
                clear hHeld
                have hHeld : True := trivial
                have BW := hide ((Below.refl wr.heap.size wr).drew)
                refine wpAnyH_take (i := 0) (v := ?_) (by simp only [List.getElem?_toArray, List.getElem?_cons_succ, List.getElem?_cons_zero]; rfl) (by kernel_rfl) (by kernel_rfl) (by kernel_rfl) (fun _ _ _ h => h) (Or.inl ⟨by rfl, ?_⟩) (by assumption) ?_
                rotate_left 1
                · (intro w hSw; (try dsimp only at hSw); go_simp; try with_reducible rfl)
                try simp only [Act.put, List.setIfInBounds_toArray, List.set_cons_zero, List.set_cons_succ]
                refine wpAnyH_take (i := 1) (v := ?_) (by simp only [List.getElem?_toArray, List.getElem?_cons_succ, List.getElem?_cons_zero]; rfl) (by kernel_rfl) (by kernel_rfl) (by kernel_rfl) (fun _ _ _ h => h) (Or.inl ⟨by rfl, ?_⟩) (by assumption) ?_
                rotate_left 1
                · (intro w hSw; (try dsimp only at hSw); go_simp; try with_reducible rfl)
                try simp only [Act.put, List.setIfInBounds_toArray, List.set_cons_zero, List.set_cons_succ]
                refine wpAnyH_take (i := 2) (v := ?_) (by simp only [List.getElem?_toArray, List.getElem?_cons_succ, List.getElem?_cons_zero]; rfl) (by kernel_rfl) (by kernel_rfl) (by kernel_rfl) (fun _ _ _ h => h) (Or.inl ⟨by rfl, ?_⟩) (by assumption) ?_
                rotate_left 1
                · (intro w hSw; (try dsimp only at hSw); go_simp; try with_reducible rfl)
                try simp only [Act.put, List.setIfInBounds_toArray, List.set_cons_zero, List.set_cons_succ]
                refine wpAnyH_take (i := 4) (v := ?_) (by simp only [List.getElem?_toArray, List.getElem?_cons_succ, List.getElem?_cons_zero]; rfl) (by kernel_rfl) (by kernel_rfl) (by kernel_rfl) (fun _ _ _ h => h) (Or.inl ⟨by rfl, ?_⟩) (by assumption) ?_
                rotate_left 1
                · (intro w hSw; (try dsimp only at hSw); go_simp; try with_reducible rfl)
                try simp only [Act.put, List.setIfInBounds_toArray, List.set_cons_zero, List.set_cons_succ]
                refine wpAnyH_ready (rs := [3, 5]) (by kernel_rfl) (by simp) ?_
                refine AllReadyH.cons (by simp only [List.getElem?_toArray, List.getElem?_cons_succ, List.getElem?_cons_zero]; rfl) (fun K hK => ?_) ?_
                rotate_left 1
                refine AllReadyH.cons (by simp only [List.getElem?_toArray, List.getElem?_cons_succ, List.getElem?_cons_zero]; rfl) (fun K hK => ?_) ?_
                rotate_left 1
                exact AllReadyH.nil
                focus
                  have e3 := CL.out _ BW.out
                  go_simp
                  refine hK.out _ _ ?_ (fun hHeld2 => ?_)
                  · ((try dsimp only) <;> (first | trivial | assumption | go_keep))
                  clear hHeld
                  have hHeld := hHeld2
                  clear hHeld2 hK K
                  try simp only [Act.put, List.setIfInBounds_toArray, List.set_cons_zero, List.set_cons_succ]
                  clear e3
                  refine wpAnyH_ready (rs := [5]) (by kernel_rfl) (by simp) ?_
                  refine AllReadyH.cons (by simp only [List.getElem?_toArray, List.getElem?_cons_succ, List.getElem?_cons_zero]; rfl) (fun K hK => ?_) ?_
                  rotate_left 1
                  · exact AllReadyH.nil
                  go_simp
                  refine (ld_bytes _ w.heap.size (some ad0) rn rc rl RB.out.drew HW.out RN.out).mono ?_; rintro e w6 ⟨q, rfl, hq, hbq, hb⟩; have B6 := hide (BW.out.trans hb); have M6 := hide (M5.out.below B6.out); have H6 := hide (H5.out.below B6.out); have Q6 := hide hbq; have hqb := hide (Nat.le_trans HW1.out hq); clear hb hbq hq; go_wp2_with fail
                  refine hK.out _ _ ?_ (fun hHeld2 => ?_)
                  · ((try dsimp only) <;> (first | trivial | assumption | go_keep))
                  clear hHeld
                  have hHeld := hHeld2
                  clear hHeld2 hK K
                  try simp only [Act.put, List.setIfInBounds_toArray, List.set_cons_zero, List.set_cons_succ]
                  refine wpAnyH_ready (rs := [6]) (by kernel_rfl) (by simp) ?_
                  refine AllReadyH.cons (by simp only [List.getElem?_toArray, List.getElem?_cons_succ, List.getElem?_cons_zero]; rfl) (fun K hK => ?_) ?_
                  rotate_left 1
                  · exact AllReadyH.nil
                  go_simp
                  refine hK.out _ _ ?_ (fun hHeld2 => ?_)
                  · ((try dsimp only) <;> (first | trivial | assumption | go_keep))
                  clear hHeld
                  have hHeld := hHeld2
                  clear hHeld2 hK K
                  try simp only [Act.put, List.setIfInBounds_toArray, List.set_cons_zero, List.set_cons_succ]
                  have M7 := hide (M6.out.alloc (.cells #[.slice (some ⟨q, 0, none⟩) 64 64] 22))
                  have H7 := hide (H6.out.alloc (.cells #[.slice (some ⟨q, 0, none⟩) 64 64] 22))
                  have Q7 := hide (Q6.out.alloc (.cells #[.slice (some ⟨q, 0, none⟩) 64 64] 22))
                  obtain ⟨xs, hox, hxe⟩ := M7.out.row k _ _ (by omega) HVK.out HXK.out
                  have hs7 := hide (Nat.le_trans H6.out.bel.size (show w6.heap.size ≤ (w6.alloc (.cells #[.slice (some ⟨q, 0, none⟩) 64 64] 22)).heap.size by simp))
                  have SL := hide (sl_newS w6 [.slice (some ⟨q, 0, none⟩) 64 64] 22)
                  refine wpAnyH_ready (rs := [7]) (by kernel_rfl) (by simp) ?_
                  refine AllReadyH.cons (by simp only [List.getElem?_toArray, List.getElem?_cons_succ, List.getElem?_cons_zero]; rfl) (fun K hK => ?_) ?_
                  rotate_left 1
                  · exact AllReadyH.nil
                  refine step_app (by rfl) (.tmp 88) (.tmp 91) _ (by rfl) ety41 w1.heap.size (.slice Ak xk.length ck) xk.length xs (by rfl) hox (w6.heap.size + 1) (some ⟨w6.heap.size, 0, none⟩) 1 1 [.slice (some ⟨q, 0, none⟩) 64 64] (by rfl) SL.out (by simp [Value.oneCell']) (by have := hlk.out; omega) hs7.out ?_; intro A8 c8 w8 hown hg hnew; have M8 := hide (M7.out.grow HVK.out HXK.out (by omega) hg); have R8 := hide (RowS.snoc hxe hox hg (round64_len rl) hqb.out Q7.out hown); have H8 := hide (H7.out.kpOut (kp_grow hg) (fun b hb => by have hb' : (Value.slice Ak xk.length ck).ownBlock = some b := (by simpa using hb); obtain ⟨h1, cs, hB⟩ := own_blk hox hb'; exact ⟨h1, out_of_type H7.out hB (by decide)⟩)); have N8 := hide hnew; have W8 := hide hg.size; clear hown hg hnew
                  refine hK.out _ _ ?_ (fun hHeld2 => ?_)
                  · ((try dsimp only) <;> (first | trivial | assumption | go_keep))
                  clear hHeld
                  have hHeld := hHeld2
                  clear hHeld2 hK K
                  try simp only [Act.put, List.setIfInBounds_toArray, List.set_cons_zero, List.set_cons_succ]
                  refine wpAnyH_take (i := 8) (v := ?_) (by simp only [List.getElem?_toArray, List.getElem?_cons_succ, List.getElem?_cons_zero]; rfl) (by kernel_rfl) (by kernel_rfl) (by kernel_rfl) (fun _ _ _ h => h) (Or.inl ⟨by rfl, ?_⟩) (by assumption) ?_
                  rotate_left 1
                  · (intro w hSw; (try dsimp only at hSw); go_simp; try with_reducible rfl)
                  try simp only [Act.put, List.setIfInBounds_toArray, List.set_cons_zero, List.set_cons_succ]
                  have e8 := M8.out.cellK HVK.out
                  have f8 := M8.out.hg.frozen k
                  refine wpAnyH_ready (rs := [9]) (by kernel_rfl) (by simp) ?_
                  refine AllReadyH.cons (by simp only [List.getElem?_toArray, List.getElem?_cons_succ, List.getElem?_cons_zero]; rfl) (fun K hK => ?_) ?_
                  rotate_left 1
                  · exact AllReadyH.nil
                  go_simp
                  refine hK.out _ _ ?_ (fun hHeld2 => ?_)
                  · ((try dsimp only) <;> (first | trivial | assumption | go_keep))
                  clear hHeld
                  have hHeld := hHeld2
                  clear hHeld2 hK K
                  try simp only [Act.put, List.setIfInBounds_toArray, List.set_cons_zero, List.set_cons_succ]
                  refine wpAnyH_done (by kernel_rfl) ?_ _
                  refine NoPanic.normal ?_
                  have M9 := hide (M8.out.put hk6 (.inr rfl) R8.out (fun j v hj hv b hb => by
                    have hj6 : j < 6 := by have := (List.getElem?_eq_some_iff.1 hv).1; rw [M7.out.nv] at this; exact this
                    intro hvb
                    rcases N8.out with h | h
                    · exact M7.out.ap j k v _ (by omega) (by omega) hj hv HVK.out b hvb (by rw [← h]; exact hb)
                    · have := M7.out.fresh hv b hvb
                      rw [hb] at h
                      injection h with h
                      omega))
                  have H9 := hide (H8.out.cellM M8.out (Nat.le_refl _) k (.slice A8 (xk.length + 1) c8))
                  clear M5 M6 M7 M8 H5 H6 H7 H8 Q6 Q7 hs7 SL R8 N8 W8 e8 f8 hox hxe HVK B6
                rotate_left 1
                focus
                  go_simp
                  refine (ld_bytes _ w.heap.size (some ad0) rn rc rl RB.out.drew HW.out RN.out).mono ?_; rintro e w6 ⟨q, rfl, hq, hbq, hb⟩; have B6 := hide (BW.out.trans hb); have M6 := hide (M5.out.below B6.out); have H6 := hide (H5.out.below B6.out); have Q6 := hide hbq; have hqb := hide (Nat.le_trans HW1.out hq); clear hb hbq hq; go_wp2_with fail
                  refine hK.out _ _ ?_ (fun hHeld2 => ?_)
                  · ((try dsimp only) <;> (first | trivial | assumption | go_keep))
                  clear hHeld
                  have hHeld := hHeld2
                  clear hHeld2 hK K
                  try simp only [Act.put, List.setIfInBounds_toArray, List.set_cons_zero, List.set_cons_succ]
                  refine wpAnyH_ready (rs := [3, 6]) (by kernel_rfl) (by simp) ?_
                  refine AllReadyH.cons (by simp only [List.getElem?_toArray, List.getElem?_cons_succ, List.getElem?_cons_zero]; rfl) (fun K hK => ?_) ?_
                  rotate_left 1
                  refine AllReadyH.cons (by simp only [List.getElem?_toArray, List.getElem?_cons_succ, List.getElem?_cons_zero]; rfl) (fun K hK => ?_) ?_
                  rotate_left 1
                  exact AllReadyH.nil
                  focus
                    have e3 := CL.out _ B6.out
                    go_simp
                    refine hK.out _ _ ?_ (fun hHeld2 => ?_)
                    · ((try dsimp only) <;> (first | trivial | assumption | go_keep))
                    clear hHeld
                    have hHeld := hHeld2
                    clear hHeld2 hK K
                    try simp only [Act.put, List.setIfInBounds_toArray, List.set_cons_zero, List.set_cons_succ]
                    clear e3
                    refine wpAnyH_ready (rs := [6]) (by kernel_rfl) (by simp) ?_
                    refine AllReadyH.cons (by simp only [List.getElem?_toArray, List.getElem?_cons_succ, List.getElem?_cons_zero]; rfl) (fun K hK => ?_) ?_
                    rotate_left 1
                    · exact AllReadyH.nil
                    go_simp
                    refine hK.out _ _ ?_ (fun hHeld2 => ?_)
                    · ((try dsimp only) <;> (first | trivial | assumption | go_keep))
                    clear hHeld
                    have hHeld := hHeld2
                    clear hHeld2 hK K
                    try simp only [Act.put, List.setIfInBounds_toArray, List.set_cons_zero, List.set_cons_succ]
                    have M7 := hide (M6.out.alloc (.cells #[.slice (some ⟨q, 0, none⟩) 64 64] 22))
                    have H7 := hide (H6.out.alloc (.cells #[.slice (some ⟨q, 0, none⟩) 64 64] 22))
                    have Q7 := hide (Q6.out.alloc (.cells #[.slice (some ⟨q, 0, none⟩) 64 64] 22))
                    obtain ⟨xs, hox, hxe⟩ := M7.out.row k _ _ (by omega) HVK.out HXK.out
                    have hs7 := hide (Nat.le_trans H6.out.bel.size (show w6.heap.size ≤ (w6.alloc (.cells #[.slice (some ⟨q, 0, none⟩) 64 64] 22)).heap.size by simp))
                    have SL := hide (sl_newS w6 [.slice (some ⟨q, 0, none⟩) 64 64] 22)
                    refine wpAnyH_ready (rs := [7]) (by kernel_rfl) (by simp) ?_
                    refine AllReadyH.cons (by simp only [List.getElem?_toArray, List.getElem?_cons_succ, List.getElem?_cons_zero]; rfl) (fun K hK => ?_) ?_
                    rotate_left 1
                    · exact AllReadyH.nil
                    refine step_app (by rfl) (.tmp 88) (.tmp 91) _ (by rfl) ety41 w1.heap.size (.slice Ak xk.length ck) xk.length xs (by rfl) hox (w6.heap.size + 1) (some ⟨w6.heap.size, 0, none⟩) 1 1 [.slice (some ⟨q, 0, none⟩) 64 64] (by rfl) SL.out (by simp [Value.oneCell']) (by have := hlk.out; omega) hs7.out ?_; intro A8 c8 w8 hown hg hnew; have M8 := hide (M7.out.grow HVK.out HXK.out (by omega) hg); have R8 := hide (RowS.snoc hxe hox hg (round64_len rl) hqb.out Q7.out hown); have H8 := hide (H7.out.kpOut (kp_grow hg) (fun b hb => by have hb' : (Value.slice Ak xk.length ck).ownBlock = some b := (by simpa using hb); obtain ⟨h1, cs, hB⟩ := own_blk hox hb'; exact ⟨h1, out_of_type H7.out hB (by decide)⟩)); have N8 := hide hnew; have W8 := hide hg.size; clear hown hg hnew
                    refine hK.out _ _ ?_ (fun hHeld2 => ?_)
                    · ((try dsimp only) <;> (first | trivial | assumption | go_keep))
                    clear hHeld
                    have hHeld := hHeld2
                    clear hHeld2 hK K
                    try simp only [Act.put, List.setIfInBounds_toArray, List.set_cons_zero, List.set_cons_succ]
                    refine wpAnyH_take (i := 8) (v := ?_) (by simp only [List.getElem?_toArray, List.getElem?_cons_succ, List.getElem?_cons_zero]; rfl) (by kernel_rfl) (by kernel_rfl) (by kernel_rfl) (fun _ _ _ h => h) (Or.inl ⟨by rfl, ?_⟩) (by assumption) ?_
                    rotate_left 1
                    · (intro w hSw; (try dsimp only at hSw); go_simp; try with_reducible rfl)
                    try simp only [Act.put, List.setIfInBounds_toArray, List.set_cons_zero, List.set_cons_succ]
                    have e8 := M8.out.cellK HVK.out
                    have f8 := M8.out.hg.frozen k
                    refine wpAnyH_ready (rs := [9]) (by kernel_rfl) (by simp) ?_
                    refine AllReadyH.cons (by simp only [List.getElem?_toArray, List.getElem?_cons_succ, List.getElem?_cons_zero]; rfl) (fun K hK => ?_) ?_
                    rotate_left 1
                    · exact AllReadyH.nil
                    go_simp
                    refine hK.out _ _ ?_ (fun hHeld2 => ?_)
                    · ((try dsimp only) <;> (first | trivial | assumption | go_keep))
                    clear hHeld
                    have hHeld := hHeld2
                    clear hHeld2 hK K
                    try simp only [Act.put, List.setIfInBounds_toArray, List.set_cons_zero, List.set_cons_succ]
                    refine wpAnyH_done (by kernel_rfl) ?_ _
                    refine NoPanic.normal ?_
                    have M9 := hide (M8.out.put hk6 (.inr rfl) R8.out (fun j v hj hv b hb => by
                      have hj6 : j < 6 := by have := (List.getElem?_eq_some_iff.1 hv).1; rw [M7.out.nv] at this; exact this
                      intro hvb
                      rcases N8.out with h | h
                      · exact M7.out.ap j k v _ (by omega) (by omega) hj hv HVK.out b hvb (by rw [← h]; exact hb)
                      · have := M7.out.fresh hv b hvb
                        rw [hb] at h
                        injection h with h
                        omega))
                    have H9 := hide (H8.out.cellM M8.out (Nat.le_refl _) k (.slice A8 (xk.length + 1) c8))
                    clear M5 M6 M7 M8 H5 H6 H7 H8 Q6 Q7 hs7 SL R8 N8 W8 e8 f8 hox hxe HVK B6
                  rotate_left 1
                  focus
                    go_simp
                    refine hK.out _ _ ?_ (fun hHeld2 => ?_)
                    · ((try dsimp only) <;> (first | trivial | assumption | go_keep))
                    clear hHeld
                    have hHeld := hHeld2
                    clear hHeld2 hK K
                    try simp only [Act.put, List.setIfInBounds_toArray, List.set_cons_zero, List.set_cons_succ]
                    have e3 := CL.out _ (B6.out.alloc B6.out.size (.cells #[.slice (some ⟨q, 0, none⟩) 64 64] 22))
                    refine wpAnyH_ready (rs := [3]) (by kernel_rfl) (by simp) ?_
                    refine AllReadyH.cons (by simp only [List.getElem?_toArray, List.getElem?_cons_succ, List.getElem?_cons_zero]; rfl) (fun K hK => ?_) ?_
                    rotate_left 1
                    · exact AllReadyH.nil
                    go_simp
                    refine hK.out _ _ ?_ (fun hHeld2 => ?_)
                    · ((try dsimp only) <;> (first | trivial | assumption | go_keep))
                    clear hHeld
                    have hHeld := hHeld2
                    clear hHeld2 hK K
                    try simp only [Act.put, List.setIfInBounds_toArray, List.set_cons_zero, List.set_cons_succ]
                    clear e3
                    have M7 := hide (M6.out.alloc (.cells #[.slice (some ⟨q, 0, none⟩) 64 64] 22))
                    have H7 := hide (H6.out.alloc (.cells #[.slice (some ⟨q, 0, none⟩) 64 64] 22))
                    have Q7 := hide (Q6.out.alloc (.cells #[.slice (some ⟨q, 0, none⟩) 64 64] 22))
                    obtain ⟨xs, hox, hxe⟩ := M7.out.row k _ _ (by omega) HVK.out HXK.out
                    have hs7 := hide (Nat.le_trans H6.out.bel.size (show w6.heap.size ≤ (w6.alloc (.cells #[.slice (some ⟨q, 0, none⟩) 64 64] 22)).heap.size by simp))
                    have SL := hide (sl_newS w6 [.slice (some ⟨q, 0, none⟩) 64 64] 22)
                    refine wpAnyH_ready (rs := [7]) (by kernel_rfl) (by simp) ?_
                    refine AllReadyH.cons (by simp only [List.getElem?_toArray, List.getElem?_cons_succ, List.getElem?_cons_zero]; rfl) (fun K hK => ?_) ?_
                    rotate_left 1
                    · exact AllReadyH.nil
                    refine step_app (by rfl) (.tmp 88) (.tmp 91) _ (by rfl) ety41 w1.heap.size (.slice Ak xk.length ck) xk.length xs (by rfl) hox (w6.heap.size + 1) (some ⟨w6.heap.size, 0, none⟩) 1 1 [.slice (some ⟨q, 0, none⟩) 64 64] (by rfl) SL.out (by simp [Value.oneCell']) (by have := hlk.out; omega) hs7.out ?_; intro A8 c8 w8 hown hg hnew; have M8 := hide (M7.out.grow HVK.out HXK.out (by omega) hg); have R8 := hide (RowS.snoc hxe hox hg (round64_len rl) hqb.out Q7.out hown); have H8 := hide (H7.out.kpOut (kp_grow hg) (fun b hb => by have hb' : (Value.slice Ak xk.length ck).ownBlock = some b := (by simpa using hb); obtain ⟨h1, cs, hB⟩ := own_blk hox hb'; exact ⟨h1, out_of_type H7.out hB (by decide)⟩)); have N8 := hide hnew; have W8 := hide hg.size; clear hown hg hnew
                    refine hK.out _ _ ?_ (fun hHeld2 => ?_)
                    · ((try dsimp only) <;> (first | trivial | assumption | go_keep))
                    clear hHeld
                    have hHeld := hHeld2
                    clear hHeld2 hK K
                    try simp only [Act.put, List.setIfInBounds_toArray, List.set_cons_zero, List.set_cons_succ]
                    refine wpAnyH_take (i := 8) (v := ?_) (by simp only [List.getElem?_toArray, List.getElem?_cons_succ, List.getElem?_cons_zero]; rfl) (by kernel_rfl) (by kernel_rfl) (by kernel_rfl) (fun _ _ _ h => h) (Or.inl ⟨by rfl, ?_⟩) (by assumption) ?_
                    rotate_left 1
                    · (intro w hSw; (try dsimp only at hSw); go_simp; try with_reducible rfl)
                    try simp only [Act.put, List.setIfInBounds_toArray, List.set_cons_zero, List.set_cons_succ]
                    have e8 := M8.out.cellK HVK.out
                    have f8 := M8.out.hg.frozen k
                    refine wpAnyH_ready (rs := [9]) (by kernel_rfl) (by simp) ?_
                    refine AllReadyH.cons (by simp only [List.getElem?_toArray, List.getElem?_cons_succ, List.getElem?_cons_zero]; rfl) (fun K hK => ?_) ?_
                    rotate_left 1
                    · exact AllReadyH.nil
                    go_simp
                    refine hK.out _ _ ?_ (fun hHeld2 => ?_)
                    · ((try dsimp only) <;> (first | trivial | assumption | go_keep))
                    clear hHeld
                    have hHeld := hHeld2
                    clear hHeld2 hK K
                    try simp only [Act.put, List.setIfInBounds_toArray, List.set_cons_zero, List.set_cons_succ]
                    refine wpAnyH_done (by kernel_rfl) ?_ _
                    refine NoPanic.normal ?_
                    have M9 := hide (M8.out.put hk6 (.inr rfl) R8.out (fun j v hj hv b hb => by
                      have hj6 : j < 6 := by have := (List.getElem?_eq_some_iff.1 hv).1; rw [M7.out.nv] at this; exact this
                      intro hvb
                      rcases N8.out with h | h
                      · exact M7.out.ap j k v _ (by omega) (by omega) hj hv HVK.out b hvb (by rw [← h]; exact hb)
                      · have := M7.out.fresh hv b hvb
                        rw [hb] at h
                        injection h with h
                        omega))
                    have H9 := hide (H8.out.cellM M8.out (Nat.le_refl _) k (.slice A8 (xk.length + 1) c8))
                    clear M5 M6 M7 M8 H5 H6 H7 H8 Q6 Q7 hs7 SL R8 N8 W8 e8 f8 hox hxe HVK B6
                all_goals
                  have HS9 := hide (show ∀ j, j < 6 → (hs.set k (xk ++ [round64 rl]))[j]? = some (hsOf (D.wrote k (round64 rl)) j) from fun j hj => by
                    rw [List.getElem?_set, hsOf_wrote]
                    by_cases e : k = j
                    · subst e
                      rw [if_pos rfl, if_pos rfl, if_pos (by have := (List.getElem?_eq_some_iff.1 HXK.out).1; exact this), hnk.out]
                    · rw [if_neg e, if_neg (Ne.symm e)]
                      exact Q5.out j hj)
                  generalize hs.set k (xk ++ [round64 rl]) = hs9 at *
                  generalize vs.set k (Value.slice A8 (xk.length + 1) c8) = vs9 at *
                  have BB9 := hide (B1.out.trans (H9.out.bel.mono B1.out.size))
                  have RB9 := hide ((HR.out _ (List.mem_of_getElem? HRR.out)).1.below BB9.out)
                  simp only at RB9
                  generalize w8.setCell _ _ = w9 at *
                  clear BW HW HW1 CL hHeld HXE HO hk0
                  go_wp2_with fail
                  refine (ld_bytes w9 w.heap.size (some ad0) rn rc rl RB9.out BB9.out.size RN.out).mono ?_
                  rintro e w10 ⟨q2, rfl, hq, hbq, hb⟩
                  have H10 := hide (H9.out.below hb)
                  have M10 := hide (M9.out.below hb)
                  have Q10 := hide hbq
                  have hqd : q2 ≠ d := by have := H9.out.lt; omega
                  clear hb hbq hq M9 H9
                  go_wp2_with fail
                  refine (ld_write H10.out k q2 _ (round64 rl) _ (by rw [Q4.out]; exact hk6) (by rw [Q3.out]; decide) (by have := Q1.out; omega) (by have := Q2.out; omega) (round64_len _) Q10.out u8s_at hqd).mono ?_
                  rintro e w11 ⟨rfl, h11, gs, hK, hf⟩
                  have M11 := hide (M10.out.disk H10.out hK hf)
                  have H11 := hide h11
                  clear h11 hK hf M10 H10 Q10 hqd
                  go_wp2_with fail
                  go_roundw
                  case rel =>
                    repeat apply Exists.intro
                    exact ⟨⟨i + 1, D.wrote k (round64 rl), vs9, hs9, by omega, by omega, by go_num, H11.out, M11.out, .inr (by show D.steps + 1 ≤ _; have := Q1.out; omega), by show (D.queue ++ [_]).length ≤ _; have := Q2.out; rw [List.length_append, List.length_singleton]; omega, by show max (D.left - 1) (-1) = -1; rw [Q3.out]; decide, Q4.out, HS9.out⟩, rfl⟩
                  case measure => simp [intOf]; omega
            · have hout : (i < m ∧ ¬ i < 30) ∨ ¬ i < m := by omega
              clear hlt
              have c50 : wr.cell? ⟨w.heap.size, 0, none⟩ = some (.int .i64 a0) := (K1.out.below H5.out.bel).cell 0
              have c51 : wr.cell? ⟨w.heap.size, 1, none⟩ = some (.int .i64 a1) := (K1.out.below H5.out.bel).cell 1
              rcases hout with ⟨hm1, hm2⟩ | hm1
              all_goals
                go_wp2_with fail
                refine (ld_crash H5.out (by have := Q4.out; omega) w.heap.size Ak nk ck ks (HK.out.below BB.out) BB.out.size hnk a0 a1).mono ?_
                rintro e w4 ⟨cd, cap, pad, rfl, hc⟩
                have HC := hide (hc.base H5.out.bel)
                have M4 := hide (M5.out.below hc.bel)
                have hCs := hide (sure_crash H5.out.ok (crashF ks a0 a1) cap pad)
                have hCn : Hid ((D.crashed (crashF ks a0 a1) cap pad).sure.length = 6) := hide (by rw [crashed_lenS H5.out.ok]; exact Q4.out)
                obtain ⟨C, hC⟩ : ∃ C, C = D.crashed (crashF ks a0 a1) cap pad := ⟨_, rfl⟩
                have hC0 : Hid (C.steps = 0 ∧ C.queue = []) := hide (by rw [hC]; exact ⟨rfl, rfl⟩)
                rw [← hC] at HC hCs hCn
                clear hC hc c50 c51 M5
                go_wp2_with fail
                refine (ld_steps HC.out).mono ?_
                rintro e w5 ⟨rfl, rfl⟩
                rw [hC0.out.1]
                go_wp2_with fail
                refine (ld_queue HC.out).mono ?_
                rintro e w5 ⟨A5, c5, rfl, -, hb⟩
                rw [hC0.out.2]
                have HC5 := hide (HC.out.below hb)
                have M5 := hide (M4.out.below hb)
                clear hb M4 HC
                simp only [List.length_nil]
                go_wp2_with fail
                have HSJ := hide (fun j (hj : j < 6) s (hs4 : s < 4) => hCs.out j s hs4)
                go_loopw [120] (fun x wz => ∃ j : Nat, j ≤ 6 ∧ x = .int .i64 (j : Int) ∧ Below w5.heap.size w5 wz) (fun x _ => 6 - (intOf x).toNat)
                case atStart => exact ⟨0, by omega, rfl, Below.refl _ _⟩
                case round =>
                  obtain ⟨j, hj, rfl, hz⟩ := hrel
                  have Z := hide hz
                  clear hz
                  by_cases hj6 : j < 6
                  · have hj6' : (j : Int) < 6 := by omega
                    go_wp2_with fail
                    refine (ld_read (HC5.out.below Z.out) j (by rw [hCn.out]; exact hj6)).mono ?_
                    rintro e w6 ⟨gb, rfl, -, hkb, hb⟩
                    have r64 : Hid ((C.read j).length = 64) := hide (read_len HC5.out j (by rw [hCn.out]; exact hj6))
                    have HSI := hide (HSJ.out j hj6)
                    obtain ⟨rd, hrd⟩ : ∃ rd, rd = C.read j := ⟨_, rfl⟩
                    rw [← hrd] at hkb r64 HSI
                    clear hrd
                    have Z6 := hide (Z.out.trans (hb.mono Z.out.size))
                    have G6 := hide (by_blk hkb r64.out)
                    clear hb hkb Z
                    have M6 := hide (M5.out.below Z6.out)
                    obtain ⟨Aj, cj, xj, hxj, hvj, -, hrj, -, -⟩ := M6.out.at hj6
                    have HXJ := hide hxj
                    have HVJ := hide hvj
                    have HDJ : Hid (xj = hsOf D j) := hide (by have := Q5.out j hj6; rw [hxj] at this; exact Option.some.inj this)
                    have HSX : Hid (∀ s, s < 4 → ∃ b ∈ xj, sec rd s = sec b s) := hide (by rw [HDJ.out]; exact HSI.out)
                    have hnj : xj.length ≤ 31 := by
                      rw [HDJ.out]
                      unfold hsOf
                      have h1 := List.length_filter_le (fun x : Nat × List UInt8 => x.1 == j) D.queue
                      have h2 := Q2.out
                      rw [List.length_cons, List.length_map]
                      omega
                    have HNJ := hide hnj
                    clear hxj hvj hrj HDJ HSI hnj
                    go_wp2_with fail
                    go_loopw [19] (fun x wz => ∃ s t : Nat, s = 16 * t ∧ t ≤ 4 ∧ x = .int .i64 (s : Int) ∧ Below w6.heap.size w6 wz) (fun x _ => 64 - (intOf x).toNat)
                    case atStart => exact ⟨0, 0, rfl, by omega, rfl, Below.refl _ _⟩
                    case round =>
                      obtain ⟨s, q, hs, hq4, rfl, hz⟩ := hrel
                      have Y := hide hz
                      clear hz
                      by_cases hlt4 : q < 4
                      · have hs64 : s < 64 := by omega
                        have hs64' : (s : Int) < 64 := by omega
                        have HSQ := hide hs
                        have HST := hide (HSX.out q hlt4)
                        have M7 := hide (M6.out.below Y.out)
                        have e7 := M7.out.cellK HVJ.out
                        clear hs
                        go_wp2_with fail
                        go_loopw [20, 144] (fun y x wz => ∃ n : Nat, n ≤ xj.length ∧ x = .int .i64 (n : Int) ∧ y = .bool (anyS xj rd q n) ∧ Below wr.heap.size wr wz) (fun _ x _ => xj.length - (intOf x).toNat)
                        case atStart => exact ⟨0, by omega, rfl, rfl, Below.refl _ _⟩
                        case round =>
                          clear e7
                          obtain ⟨n, hn, rfl, rfl, hz⟩ := hrel
                          have X := hide hz
                          clear hz
                          by_cases hltn : n < xj.length
                          · obtain ⟨b, hb⟩ : ∃ b, xj[n]? = some b := ⟨_, List.getElem?_eq_getElem hltn⟩
                            have HAN := hide (anyS_succ (rd := rd) (q := q) hb)
                            have M8 := hide (M7.out.below X.out)
                            obtain ⟨xs, hox, hxe⟩ := M8.out.row j _ _ (by omega) HVJ.out HXJ.out
                            obtain ⟨hb64, qb, hqb, -, hB⟩ := hxe n b hb
                            obtain ⟨gr, u, hA, -, -, hu, hcr, -, -⟩ := own_set1 hox hltn
                            have hu2 : u = .slice (some ⟨qb, 0, none⟩) 64 64 := Option.some.inj (hu.symm.trans hqb)
                            subst hu2
                            have GB := hide (by_blk hB hb64)
                            have GA := hide ((G6.out.below (Y.out.trans (X.out.mono Y.out.size))))
                            subst hA
                            clear hox hxe hqb hB hu hb M8
                            have nn := HNJ.out
                            have hn31 : (n : Int) ≤ 31 := by omega
                            have hsum : IntKind.i64.wrap ((s : Int) + 16) = (s : Int) + 16 := by rw [IntKind.wrap_i64]; omega
                            have sl1 := fun w' => run_secS (A := some ⟨gb, 0, none⟩) (w := w') HSQ.out hlt4
                            have sl2 := fun w' => run_secS (A := some ⟨qb, 0, none⟩) (w := w') HSQ.out hlt4
                            have GA2 := hide (by_secS HSQ.out GA.out hlt4)
                            have GB2 := hide (by_secS HSQ.out GB.out hlt4)
                            rcases hany : anyS xj rd q n with _ | _
                            · rw [hany, Bool.false_or] at HAN
                              clear hany nn
                              obtain ⟨cv, hcv⟩ := cv_ex Try.prog 22 9
                              have CC := hide (fun (w' : World) (hb : Below wr.heap.size wr w') => And.intro (cv_txt hcv Try.underlying22 Try.underlying5 Try.underlying9 (w := w') (64 - s) (GA2.out.below (hb.mono (Nat.le_trans Y.out.size X.out.size)))) (cv_txt hcv Try.underlying22 Try.underlying5 Try.underlying9 (w := w') (64 - s) (GB2.out.below hb)))
                              by_cases hsec : sec rd q = sec b q
                              · have ht := txt_eq (sec b q)
                                have hdd := decide_eq_true hsec
                                rw [hsec] at CC
                                clear hsec
                                go_upto_region 44 with fail
                                have s0 := CC.out _ (Below.refl _ _).drew
                                refine wp_region_noPanic ?_
                                refine wp_region_held_drew (S := fun w' => cv (.slice (cutA (some ⟨gb, 0, none⟩) 64 s) 16 (64 - s)) w' = .ok (.string (txt (sec b q))) w' ∧ cv (.slice (cutA (some ⟨qb, 0, none⟩) 64 s) 16 (64 - s)) w' = .ok (.string (txt (sec b q))) w') (by kernel_rfl) ?_ (fun hHeld => ?_)
                                · exact s0
                                clear s0
                                refine wpAnyH_take (i := 0) (v := ?_) (by simp only [List.getElem?_toArray, List.getElem?_cons_succ, List.getElem?_cons_zero]; rfl) (by kernel_rfl) (by kernel_rfl) (by kernel_rfl) (fun _ _ _ h => h) (Or.inl ⟨by rfl, ?_⟩) (by assumption) ?_
                                rotate_left 1
                                · (intro w hSw; (try dsimp only at hSw); go_simp; try with_reducible rfl)
                                try simp only [Act.put, List.setIfInBounds_toArray, List.set_cons_zero, List.set_cons_succ]
                                refine wpAnyH_take (i := 1) (v := ?_) (by simp only [List.getElem?_toArray, List.getElem?_cons_succ, List.getElem?_cons_zero]; rfl) (by kernel_rfl) (by kernel_rfl) (by kernel_rfl) (fun _ _ _ h => h) (Or.inl ⟨by rfl, ?_⟩) (by assumption) ?_
                                rotate_left 1
                                · (intro w hSw; (try dsimp only at hSw); go_simp; try with_reducible rfl)
                                try simp only [Act.put, List.setIfInBounds_toArray, List.set_cons_zero, List.set_cons_succ]
                                refine wpAnyH_take (i := 2) (v := ?_) (by simp only [List.getElem?_toArray, List.getElem?_cons_succ, List.getElem?_cons_zero]; rfl) (by kernel_rfl) (by kernel_rfl) (by kernel_rfl) (fun _ _ _ h => h) (Or.inl ⟨by rfl, ?_⟩) (by assumption) ?_
                                rotate_left 1
                                · (intro w hSw; (try dsimp only at hSw); go_simp; try with_reducible rfl)
                                try simp only [Act.put, List.setIfInBounds_toArray, List.set_cons_zero, List.set_cons_succ]
                                refine wpAnyH_take (i := 3) (v := ?_) (by simp only [List.getElem?_toArray, List.getElem?_cons_succ, List.getElem?_cons_zero]; rfl) (by kernel_rfl) (by kernel_rfl) (by kernel_rfl) (fun _ _ _ h => h) (Or.inl ⟨by rfl, ?_⟩) (by assumption) ?_
                                rotate_left 1
                                · (intro w hSw; (try dsimp only at hSw); go_simp; try with_reducible rfl)
                                try simp only [Act.put, List.setIfInBounds_toArray, List.set_cons_zero, List.set_cons_succ]
                                refine wpAnyH_take (i := 4) (v := ?_) (by simp only [List.getElem?_toArray, List.getElem?_cons_succ, List.getElem?_cons_zero]; rfl) (by kernel_rfl) (by kernel_rfl) (by kernel_rfl) (fun _ _ _ h => h) (Or.inl ⟨by rfl, ?_⟩) (by assumption) ?_
                                rotate_left 1
                                · (intro w hSw; (try dsimp only at hSw); go_simp; try with_reducible rfl)
                                try simp only [Act.put, List.setIfInBounds_toArray, List.set_cons_zero, List.set_cons_succ]
                                refine wpAnyH_take (i := 5) (v := ?_) (by simp only [List.getElem?_toArray, List.getElem?_cons_succ, List.getElem?_cons_zero]; rfl) (by kernel_rfl) (by kernel_rfl) (by kernel_rfl) (fun _ _ _ h => h) (Or.inl ⟨by rfl, ?_⟩) (by assumption) ?_
                                rotate_left 1
                                · (intro w hSw; (try dsimp only at hSw); go_simp; try with_reducible rfl)
                                try simp only [Act.put, List.setIfInBounds_toArray, List.set_cons_zero, List.set_cons_succ]
                                refine wpAnyH_take (i := 6) (v := ?_) (by simp only [List.getElem?_toArray, List.getElem?_cons_succ, List.getElem?_cons_zero]; rfl) (by kernel_rfl) (by kernel_rfl) (by kernel_rfl) (fun _ _ _ h => h) (Or.inl ⟨by rfl, ?_⟩) (by assumption) ?_
                                rotate_left 1
                                · (intro w hSw; (try dsimp only at hSw); go_simp; try with_reducible rfl)
                                try simp only [Act.put, List.setIfInBounds_toArray, List.set_cons_zero, List.set_cons_succ]
                                refine wpAnyH_take (i := 7) (v := ?_) (by simp only [List.getElem?_toArray, List.getElem?_cons_succ, List.getElem?_cons_zero]; rfl) (by kernel_rfl) (by kernel_rfl) (by kernel_rfl) (fun _ _ _ h => h) (Or.inl ⟨by rfl, ?_⟩) (by assumption) ?_
                                rotate_left 1
                                · (intro w hSw; (try dsimp only at hSw); go_simp; try with_reducible rfl)
                                try simp only [Act.put, List.setIfInBounds_toArray, List.set_cons_zero, List.set_cons_succ]
                                refine wpAnyH_take (i := 8) (v := ?_) (by simp only [List.getElem?_toArray, List.getElem?_cons_succ, List.getElem?_cons_zero]; rfl) (by kernel_rfl) (by kernel_rfl) (by kernel_rfl) (fun _ _ _ h => h) (Or.inl ⟨by rfl, ?_⟩) (by assumption) ?_
                                rotate_left 1
                                · (intro w hSw; (try dsimp only at hSw); go_simp; try with_reducible rfl)
                                try simp only [Act.put, List.setIfInBounds_toArray, List.set_cons_zero, List.set_cons_succ]
                                refine wpAnyH_take (i := 9) (v := ?_) (by simp only [List.getElem?_toArray, List.getElem?_cons_succ, List.getElem?_cons_zero]; rfl) (by kernel_rfl) (by kernel_rfl) (by kernel_rfl) (fun _ _ _ h => h) (Or.inl ⟨by rfl, ?_⟩) (by assumption) ?_
                                rotate_left 1
                                · (intro w hSw; (try dsimp only at hSw); go_simp; try with_reducible rfl)
                                try simp only [Act.put, List.setIfInBounds_toArray, List.set_cons_zero, List.set_cons_succ]
                                refine wpAnyH_take (i := 10) (v := ?_) (by simp only [List.getElem?_toArray, List.getElem?_cons_succ, List.getElem?_cons_zero]; rfl) (by kernel_rfl) (by kernel_rfl) (by kernel_rfl) (fun _ _ _ h => h) (Or.inl ⟨by rfl, ?_⟩) (by assumption) ?_
                                rotate_left 1
                                · (intro w hSw; (try dsimp only at hSw); go_simp; try with_reducible rfl)
                                try simp only [Act.put, List.setIfInBounds_toArray, List.set_cons_zero, List.set_cons_succ]
                                refine wpAnyH_take (i := 11) (v := ?_) (by simp only [List.getElem?_toArray, List.getElem?_cons_succ, List.getElem?_cons_zero]; rfl) (by kernel_rfl) (by kernel_rfl) (by kernel_rfl) (fun _ _ _ h => h) (Or.inl ⟨by rfl, ?_⟩) (by assumption) ?_
                                rotate_left 1
                                · (intro w hSw; (try dsimp only at hSw); go_simp; try with_reducible rfl)
                                try simp only [Act.put, List.setIfInBounds_toArray, List.set_cons_zero, List.set_cons_succ]
                                refine wpAnyH_take (i := 12) (v := ?_) (by simp only [List.getElem?_toArray, List.getElem?_cons_succ, List.getElem?_cons_zero]; rfl) (by kernel_rfl) (by kernel_rfl) (by kernel_rfl) (fun _ _ _ h => h) (Or.inl ⟨by rfl, ?_⟩) (by assumption) ?_
                                rotate_left 1
                                · (intro w hSw; (try dsimp only at hSw); go_simp; try with_reducible rfl)
                                try simp only [Act.put, List.setIfInBounds_toArray, List.set_cons_zero, List.set_cons_succ]
                                refine wpAnyH_take (i := 13) (v := ?_) (by simp only [List.getElem?_toArray, List.getElem?_cons_succ, List.getElem?_cons_zero]; rfl) (by kernel_rfl) (by kernel_rfl) (by kernel_rfl) (fun _ _ _ h => h) (Or.inl ⟨by rfl, ?_⟩) (by assumption) ?_
                                rotate_left 1
                                · (intro w hSw; (try dsimp only at hSw); go_simp; try with_reducible rfl)
                                try simp only [Act.put, List.setIfInBounds_toArray, List.set_cons_zero, List.set_cons_succ]
                                refine wpAnyH_take (i := 14) (v := ?_) (by simp only [List.getElem?_toArray, List.getElem?_cons_succ, List.getElem?_cons_zero]; rfl) (by kernel_rfl) (by kernel_rfl) (by kernel_rfl) (fun _ _ _ h => h) (Or.inl ⟨by rfl, ?_⟩) (by assumption) ?_
                                rotate_left 1
                                · (intro w hSw; (try dsimp only at hSw); go_simp; try with_reducible rfl)
                                try simp only [Act.put, List.setIfInBounds_toArray, List.set_cons_zero, List.set_cons_succ]
                                refine wpAnyH_take (i := 15) (v := ?_) (by simp only [List.getElem?_toArray, List.getElem?_cons_succ, List.getElem?_cons_zero]; rfl) (by kernel_rfl) (by kernel_rfl) (by kernel_rfl) (fun _ _ _ h => h) (Or.inl ⟨by rfl, ?_⟩) (by assumption) ?_
                                rotate_left 1
                                · (intro w hSw; (try dsimp only at hSw); go_simp; try with_reducible rfl)
                                try simp only [Act.put, List.setIfInBounds_toArray, List.set_cons_zero, List.set_cons_succ]
                                refine wpAnyH_take (i := 16) (v := ?_) (by simp only [List.getElem?_toArray, List.getElem?_cons_succ, List.getElem?_cons_zero]; rfl) (by kernel_rfl) (by kernel_rfl) (by kernel_rfl) (fun _ _ _ h => h) (Or.inl ⟨by rfl, ?_⟩) (by assumption) ?_
                                rotate_left 1
                                · (intro w hSw; (try dsimp only at hSw); go_simp; try with_reducible rfl)
                                try simp only [Act.put, List.setIfInBounds_toArray, List.set_cons_zero, List.set_cons_succ]
                                refine wpAnyH_done (by kernel_rfl) ?_ _
                                refine NoPanic.normal ?_
                                clear CC sl1 sl2 hcv hHeld GA2 GB2
                                go_wp2_with fail
                                go_roundw
                                case rel => exact ⟨n + 1, by omega, by go_num, by rw [HAN.out, hdd], X.out.drew⟩
                                case measure => simp [intOf]; omega
                              · have ht := txt_ne hsec
                                have hdd := decide_eq_false hsec
                                clear hsec
                                go_upto_region 44 with fail
                                have s0 := CC.out _ (Below.refl _ _).drew
                                refine wp_region_noPanic ?_
                                refine wp_region_held_drew (S := fun w' => cv (.slice (cutA (some ⟨gb, 0, none⟩) 64 s) 16 (64 - s)) w' = .ok (.string (txt (sec rd q))) w' ∧ cv (.slice (cutA (some ⟨qb, 0, none⟩) 64 s) 16 (64 - s)) w' = .ok (.string (txt (sec b q))) w') (by kernel_rfl) ?_ (fun hHeld => ?_)
                                · exact s0
                                clear s0
                                refine wpAnyH_take (i := 0) (v := ?_) (by simp only [List.getElem?_toArray, List.getElem?_cons_succ, List.getElem?_cons_zero]; rfl) (by kernel_rfl) (by kernel_rfl) (by kernel_rfl) (fun _ _ _ h => h) (Or.inl ⟨by rfl, ?_⟩) (by assumption) ?_
                                rotate_left 1
                                · (intro w hSw; (try dsimp only at hSw); go_simp; try with_reducible rfl)
                                try simp only [Act.put, List.setIfInBounds_toArray, List.set_cons_zero, List.set_cons_succ]
                                refine wpAnyH_take (i := 1) (v := ?_) (by simp only [List.getElem?_toArray, List.getElem?_cons_succ, List.getElem?_cons_zero]; rfl) (by kernel_rfl) (by kernel_rfl) (by kernel_rfl) (fun _ _ _ h => h) (Or.inl ⟨by rfl, ?_⟩) (by assumption) ?_
                                rotate_left 1
                                · (intro w hSw; (try dsimp only at hSw); go_simp; try with_reducible rfl)
                                try simp only [Act.put, List.setIfInBounds_toArray, List.set_cons_zero, List.set_cons_succ]
                                refine wpAnyH_take (i := 2) (v := ?_) (by simp only [List.getElem?_toArray, List.getElem?_cons_succ, List.getElem?_cons_zero]; rfl) (by kernel_rfl) (by kernel_rfl) (by kernel_rfl) (fun _ _ _ h => h) (Or.inl ⟨by rfl, ?_⟩) (by assumption) ?_
                                rotate_left 1
                                · (intro w hSw; (try dsimp only at hSw); go_simp; try with_reducible rfl)
                                try simp only [Act.put, List.setIfInBounds_toArray, List.set_cons_zero, List.set_cons_succ]
                                refine wpAnyH_take (i := 3) (v := ?_) (by simp only [List.getElem?_toArray, List.getElem?_cons_succ, List.getElem?_cons_zero]; rfl) (by kernel_rfl) (by kernel_rfl) (by kernel_rfl) (fun _ _ _ h => h) (Or.inl ⟨by rfl, ?_⟩) (by assumption) ?_
                                rotate_left 1
                                · (intro w hSw; (try dsimp only at hSw); go_simp; try with_reducible rfl)
                                try simp only [Act.put, List.setIfInBounds_toArray, List.set_cons_zero, List.set_cons_succ]
                                refine wpAnyH_take (i := 4) (v := ?_) (by simp only [List.getElem?_toArray, List.getElem?_cons_succ, List.getElem?_cons_zero]; rfl) (by kernel_rfl) (by kernel_rfl) (by kernel_rfl) (fun _ _ _ h => h) (Or.inl ⟨by rfl, ?_⟩) (by assumption) ?_
                                rotate_left 1
                                · (intro w hSw; (try dsimp only at hSw); go_simp; try with_reducible rfl)
                                try simp only [Act.put, List.setIfInBounds_toArray, List.set_cons_zero, List.set_cons_succ]
                                refine wpAnyH_take (i := 5) (v := ?_) (by simp only [List.getElem?_toArray, List.getElem?_cons_succ, List.getElem?_cons_zero]; rfl) (by kernel_rfl) (by kernel_rfl) (by kernel_rfl) (fun _ _ _ h => h) (Or.inl ⟨by rfl, ?_⟩) (by assumption) ?_
                                rotate_left 1
                                · (intro w hSw; (try dsimp only at hSw); go_simp; try with_reducible rfl)
                                try simp only [Act.put, List.setIfInBounds_toArray, List.set_cons_zero, List.set_cons_succ]
                                refine wpAnyH_take (i := 6) (v := ?_) (by simp only [List.getElem?_toArray, List.getElem?_cons_succ, List.getElem?_cons_zero]; rfl) (by kernel_rfl) (by kernel_rfl) (by kernel_rfl) (fun _ _ _ h => h) (Or.inl ⟨by rfl, ?_⟩) (by assumption) ?_
                                rotate_left 1
                                · (intro w hSw; (try dsimp only at hSw); go_simp; try with_reducible rfl)
                                try simp only [Act.put, List.setIfInBounds_toArray, List.set_cons_zero, List.set_cons_succ]
                                refine wpAnyH_take (i := 7) (v := ?_) (by simp only [List.getElem?_toArray, List.getElem?_cons_succ, List.getElem?_cons_zero]; rfl) (by kernel_rfl) (by kernel_rfl) (by kernel_rfl) (fun _ _ _ h => h) (Or.inl ⟨by rfl, ?_⟩) (by assumption) ?_
                                rotate_left 1
                                · (intro w hSw; (try dsimp only at hSw); go_simp; try with_reducible rfl)
                                try simp only [Act.put, List.setIfInBounds_toArray, List.set_cons_zero, List.set_cons_succ]
                                refine wpAnyH_take (i := 8) (v := ?_) (by simp only [List.getElem?_toArray, List.getElem?_cons_succ, List.getElem?_cons_zero]; rfl) (by kernel_rfl) (by kernel_rfl) (by kernel_rfl) (fun _ _ _ h => h) (Or.inl ⟨by rfl, ?_⟩) (by assumption) ?_
                                rotate_left 1
                                · (intro w hSw; (try dsimp only at hSw); go_simp; try with_reducible rfl)
                                try simp only [Act.put, List.setIfInBounds_toArray, List.set_cons_zero, List.set_cons_succ]
                                refine wpAnyH_take (i := 9) (v := ?_) (by simp only [List.getElem?_toArray, List.getElem?_cons_succ, List.getElem?_cons_zero]; rfl) (by kernel_rfl) (by kernel_rfl) (by kernel_rfl) (fun _ _ _ h => h) (Or.inl ⟨by rfl, ?_⟩) (by assumption) ?_
                                rotate_left 1
                                · (intro w hSw; (try dsimp only at hSw); go_simp; try with_reducible rfl)
                                try simp only [Act.put, List.setIfInBounds_toArray, List.set_cons_zero, List.set_cons_succ]
                                refine wpAnyH_take (i := 10) (v := ?_) (by simp only [List.getElem?_toArray, List.getElem?_cons_succ, List.getElem?_cons_zero]; rfl) (by kernel_rfl) (by kernel_rfl) (by kernel_rfl) (fun _ _ _ h => h) (Or.inl ⟨by rfl, ?_⟩) (by assumption) ?_
                                rotate_left 1
                                · (intro w hSw; (try dsimp only at hSw); go_simp; try with_reducible rfl)
                                try simp only [Act.put, List.setIfInBounds_toArray, List.set_cons_zero, List.set_cons_succ]
                                refine wpAnyH_take (i := 11) (v := ?_) (by simp only [List.getElem?_toArray, List.getElem?_cons_succ, List.getElem?_cons_zero]; rfl) (by kernel_rfl) (by kernel_rfl) (by kernel_rfl) (fun _ _ _ h => h) (Or.inl ⟨by rfl, ?_⟩) (by assumption) ?_
                                rotate_left 1
                                · (intro w hSw; (try dsimp only at hSw); go_simp; try with_reducible rfl)
                                try simp only [Act.put, List.setIfInBounds_toArray, List.set_cons_zero, List.set_cons_succ]
                                refine wpAnyH_take (i := 12) (v := ?_) (by simp only [List.getElem?_toArray, List.getElem?_cons_succ, List.getElem?_cons_zero]; rfl) (by kernel_rfl) (by kernel_rfl) (by kernel_rfl) (fun _ _ _ h => h) (Or.inl ⟨by rfl, ?_⟩) (by assumption) ?_
                                rotate_left 1
                                · (intro w hSw; (try dsimp only at hSw); go_simp; try with_reducible rfl)
                                try simp only [Act.put, List.setIfInBounds_toArray, List.set_cons_zero, List.set_cons_succ]
                                refine wpAnyH_take (i := 13) (v := ?_) (by simp only [List.getElem?_toArray, List.getElem?_cons_succ, List.getElem?_cons_zero]; rfl) (by kernel_rfl) (by kernel_rfl) (by kernel_rfl) (fun _ _ _ h => h) (Or.inl ⟨by rfl, ?_⟩) (by assumption) ?_
                                rotate_left 1
                                · (intro w hSw; (try dsimp only at hSw); go_simp; try with_reducible rfl)
                                try simp only [Act.put, List.setIfInBounds_toArray, List.set_cons_zero, List.set_cons_succ]
                                refine wpAnyH_take (i := 14) (v := ?_) (by simp only [List.getElem?_toArray, List.getElem?_cons_succ, List.getElem?_cons_zero]; rfl) (by kernel_rfl) (by kernel_rfl) (by kernel_rfl) (fun _ _ _ h => h) (Or.inl ⟨by rfl, ?_⟩) (by assumption) ?_
                                rotate_left 1
                                · (intro w hSw; (try dsimp only at hSw); go_simp; try with_reducible rfl)
                                try simp only [Act.put, List.setIfInBounds_toArray, List.set_cons_zero, List.set_cons_succ]
                                refine wpAnyH_take (i := 15) (v := ?_) (by simp only [List.getElem?_toArray, List.getElem?_cons_succ, List.getElem?_cons_zero]; rfl) (by kernel_rfl) (by kernel_rfl) (by kernel_rfl) (fun _ _ _ h => h) (Or.inl ⟨by rfl, ?_⟩) (by assumption) ?_
                                rotate_left 1
                                · (intro w hSw; (try dsimp only at hSw); go_simp; try with_reducible rfl)
                                try simp only [Act.put, List.setIfInBounds_toArray, List.set_cons_zero, List.set_cons_succ]
                                refine wpAnyH_take (i := 16) (v := ?_) (by simp only [List.getElem?_toArray, List.getElem?_cons_succ, List.getElem?_cons_zero]; rfl) (by kernel_rfl) (by kernel_rfl) (by kernel_rfl) (fun _ _ _ h => h) (Or.inl ⟨by rfl, ?_⟩) (by assumption) ?_
                                rotate_left 1
                                · (intro w hSw; (try dsimp only at hSw); go_simp; try with_reducible rfl)
                                try simp only [Act.put, List.setIfInBounds_toArray, List.set_cons_zero, List.set_cons_succ]
                                refine wpAnyH_done (by kernel_rfl) ?_ _
                                refine NoPanic.normal ?_
                                clear CC sl1 sl2 hcv hHeld GA2 GB2
                                go_wp2_with fail
                                go_roundw
                                case rel => exact ⟨n + 1, by omega, by go_num, by rw [HAN.out, hdd], X.out.drew⟩
                                case measure => simp [intOf]; omega
                            · rw [hany, Bool.true_or] at HAN
                              clear hany nn sl1 sl2
                              go_upto_region 44 with fail
                              refine wp_region_noPanic ?_
                              refine wp_region_held_drew (S := (fun _ => True)) (by kernel_rfl) ?_ (fun hHeld => ?_)
                              · ((try dsimp only) <;> (first | trivial | assumption | go_keep))
                              refine wpAnyH_take (i := 0) (v := ?_) (by simp only [List.getElem?_toArray, List.getElem?_cons_succ, List.getElem?_cons_zero]; rfl) (by kernel_rfl) (by kernel_rfl) (by kernel_rfl) (fun _ _ _ h => h) (Or.inl ⟨by rfl, ?_⟩) (by assumption) ?_
                              rotate_left 1
                              · (intro w hSw; (try dsimp only at hSw); go_simp; try with_reducible rfl)
                              try simp only [Act.put, List.setIfInBounds_toArray, List.set_cons_zero, List.set_cons_succ]
                              refine wpAnyH_take (i := 1) (v := ?_) (by simp only [List.getElem?_toArray, List.getElem?_cons_succ, List.getElem?_cons_zero]; rfl) (by kernel_rfl) (by kernel_rfl) (by kernel_rfl) (fun _ _ _ h => h) (Or.inl ⟨by rfl, ?_⟩) (by assumption) ?_
                              rotate_left 1
                              · (intro w hSw; (try dsimp only at hSw); go_simp; try with_reducible rfl)
                              try simp only [Act.put, List.setIfInBounds_toArray, List.set_cons_zero, List.set_cons_succ]
                              refine wpAnyH_take (i := 2) (v := undef) (by simp only [List.getElem?_toArray, List.getElem?_cons_succ, List.getElem?_cons_zero]; rfl) (by kernel_rfl) (by kernel_rfl) (by kernel_rfl) (fun _ _ _ h => h) (Or.inr ⟨by rfl, rfl⟩) (by assumption) ?_
                              try simp only [Act.put, List.setIfInBounds_toArray, List.set_cons_zero, List.set_cons_succ]
                              refine wpAnyH_take (i := 3) (v := undef) (by simp only [List.getElem?_toArray, List.getElem?_cons_succ, List.getElem?_cons_zero]; rfl) (by kernel_rfl) (by kernel_rfl) (by kernel_rfl) (fun _ _ _ h => h) (Or.inr ⟨by rfl, rfl⟩) (by assumption) ?_
                              try simp only [Act.put, List.setIfInBounds_toArray, List.set_cons_zero, List.set_cons_succ]
                              refine wpAnyH_take (i := 4) (v := undef) (by simp only [List.getElem?_toArray, List.getElem?_cons_succ, List.getElem?_cons_zero]; rfl) (by kernel_rfl) (by kernel_rfl) (by kernel_rfl) (fun _ _ _ h => h) (Or.inr ⟨by rfl, rfl⟩) (by assumption) ?_
                              try simp only [Act.put, List.setIfInBounds_toArray, List.set_cons_zero, List.set_cons_succ]
                              refine wpAnyH_take (i := 5) (v := undef) (by simp only [List.getElem?_toArray, List.getElem?_cons_succ, List.getElem?_cons_zero]; rfl) (by kernel_rfl) (by kernel_rfl) (by kernel_rfl) (fun _ _ _ h => h) (Or.inr ⟨by rfl, rfl⟩) (by assumption) ?_
                              try simp only [Act.put, List.setIfInBounds_toArray, List.set_cons_zero, List.set_cons_succ]
                              refine wpAnyH_take (i := 6) (v := undef) (by simp only [List.getElem?_toArray, List.getElem?_cons_succ, List.getElem?_cons_zero]; rfl) (by kernel_rfl) (by kernel_rfl) (by kernel_rfl) (fun _ _ _ h => h) (Or.inr ⟨by rfl, rfl⟩) (by assumption) ?_
                              try simp only [Act.put, List.setIfInBounds_toArray, List.set_cons_zero, List.set_cons_succ]
                              refine wpAnyH_take (i := 7) (v := undef) (by simp only [List.getElem?_toArray, List.getElem?_cons_succ, List.getElem?_cons_zero]; rfl) (by kernel_rfl) (by kernel_rfl) (by kernel_rfl) (fun _ _ _ h => h) (Or.inr ⟨by rfl, rfl⟩) (by assumption) ?_
                              try simp only [Act.put, List.setIfInBounds_toArray, List.set_cons_zero, List.set_cons_succ]
                              refine wpAnyH_take (i := 8) (v := undef) (by simp only [List.getElem?_toArray, List.getElem?_cons_succ, List.getElem?_cons_zero]; rfl) (by kernel_rfl) (by kernel_rfl) (by kernel_rfl) (fun _ _ _ h => h) (Or.inr ⟨by rfl, rfl⟩) (by assumption) ?_
                              try simp only [Act.put, List.setIfInBounds_toArray, List.set_cons_zero, List.set_cons_succ]
                              refine wpAnyH_take (i := 9) (v := undef) (by simp only [List.getElem?_toArray, List.getElem?_cons_succ, List.getElem?_cons_zero]; rfl) (by kernel_rfl) (by kernel_rfl) (by kernel_rfl) (fun _ _ _ h => h) (Or.inr ⟨by rfl, rfl⟩) (by assumption) ?_
                              try simp only [Act.put, List.setIfInBounds_toArray, List.set_cons_zero, List.set_cons_succ]
                              refine wpAnyH_take (i := 10) (v := undef) (by simp only [List.getElem?_toArray, List.getElem?_cons_succ, List.getElem?_cons_zero]; rfl) (by kernel_rfl) (by kernel_rfl) (by kernel_rfl) (fun _ _ _ h => h) (Or.inr ⟨by rfl, rfl⟩) (by assumption) ?_
                              try simp only [Act.put, List.setIfInBounds_toArray, List.set_cons_zero, List.set_cons_succ]
                              refine wpAnyH_take (i := 11) (v := undef) (by simp only [List.getElem?_toArray, List.getElem?_cons_succ, List.getElem?_cons_zero]; rfl) (by kernel_rfl) (by kernel_rfl) (by kernel_rfl) (fun _ _ _ h => h) (Or.inr ⟨by rfl, rfl⟩) (by assumption) ?_
                              try simp only [Act.put, List.setIfInBounds_toArray, List.set_cons_zero, List.set_cons_succ]
                              refine wpAnyH_take (i := 12) (v := undef) (by simp only [List.getElem?_toArray, List.getElem?_cons_succ, List.getElem?_cons_zero]; rfl) (by kernel_rfl) (by kernel_rfl) (by kernel_rfl) (fun _ _ _ h => h) (Or.inr ⟨by rfl, rfl⟩) (by assumption) ?_
                              try simp only [Act.put, List.setIfInBounds_toArray, List.set_cons_zero, List.set_cons_succ]
                              refine wpAnyH_take (i := 13) (v := undef) (by simp only [List.getElem?_toArray, List.getElem?_cons_succ, List.getElem?_cons_zero]; rfl) (by kernel_rfl) (by kernel_rfl) (by kernel_rfl) (fun _ _ _ h => h) (Or.inr ⟨by rfl, rfl⟩) (by assumption) ?_
                              try simp only [Act.put, List.setIfInBounds_toArray, List.set_cons_zero, List.set_cons_succ]
                              refine wpAnyH_take (i := 14) (v := undef) (by simp only [List.getElem?_toArray, List.getElem?_cons_succ, List.getElem?_cons_zero]; rfl) (by kernel_rfl) (by kernel_rfl) (by kernel_rfl) (fun _ _ _ h => h) (Or.inr ⟨by rfl, rfl⟩) (by assumption) ?_
                              try simp only [Act.put, List.setIfInBounds_toArray, List.set_cons_zero, List.set_cons_succ]
                              refine wpAnyH_take (i := 15) (v := ?_) (by simp only [List.getElem?_toArray, List.getElem?_cons_succ, List.getElem?_cons_zero]; rfl) (by kernel_rfl) (by kernel_rfl) (by kernel_rfl) (fun _ _ _ h => h) (Or.inl ⟨by rfl, ?_⟩) (by assumption) ?_
                              rotate_left 1
                              · (intro w hSw; (try dsimp only at hSw); go_simp; try with_reducible rfl)
                              try simp only [Act.put, List.setIfInBounds_toArray, List.set_cons_zero, List.set_cons_succ]
                              refine wpAnyH_take (i := 16) (v := ?_) (by simp only [List.getElem?_toArray, List.getElem?_cons_succ, List.getElem?_cons_zero]; rfl) (by kernel_rfl) (by kernel_rfl) (by kernel_rfl) (fun _ _ _ h => h) (Or.inl ⟨by rfl, ?_⟩) (by assumption) ?_
                              rotate_left 1
                              · (intro w hSw; (try dsimp only at hSw); go_simp; try with_reducible rfl)
                              try simp only [Act.put, List.setIfInBounds_toArray, List.set_cons_zero, List.set_cons_succ]
                              refine wpAnyH_done (by kernel_rfl) ?_ _
                              refine NoPanic.normal ?_
                              go_wp2_with fail
                              go_roundw
                              case rel => exact ⟨n + 1, by omega, by go_num, by rw [HAN.out], X.out.drew⟩
                              case measure => simp [intOf]; omega
                          · obtain rfl : n = xj.length := by omega
                            rw [anyS_all HST.out]
                            go_wp2_with fail
                            go_roundw
                            case rel => exact ⟨s + 16, q + 1, by have := HSQ.out; omega, by omega, by go_num, Y.out.trans (X.out.mono Y.out.size)⟩
                            case measure => simp [intOf]; omega
                      · have hs64 : s = 64 := by omega
                        subst hs64
                        clear hs
                        go_wp2_with fail
                        go_roundw
                        case rel => exact ⟨j + 1, by omega, by go_num, Z6.out.trans (Y.out.mono Z6.out.size)⟩
                        case measure => simp [intOf]; omega
                  · go_wp2_with fail
                    go_ret
                    exact ⟨rfl, B1.out.trans ((HC5.out.bel.trans (Z.out.mono HC5.out.bel.size)).mono B1.out.size)⟩
end Go.Proofs.Ytpcaaobninnkaaa
