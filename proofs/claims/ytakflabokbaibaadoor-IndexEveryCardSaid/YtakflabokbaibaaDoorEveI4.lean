/- The walk over IndexEvery. -/
import Derived.Test.YtakflabokbaibaaDoorMapI
import Derived.Test.YtakflabokbaibaaDoorAw04
set_option linter.unusedVariables false
set_option linter.unusedSimpArgs false
namespace Go.Proofs.YtakflabokbaibaaDoor
open Go.RowKit
attribute [local go_sem ↓] Go.wp_at_zero Go.wp_at_succ
/-- Go's min, kept whole in a walk. -/
def minK_modU3 (ts : Array TypeId) (t : TypeId) (vs : Array Value) : Sem Value := Builtin.min_ ts t vs
theorem minK_modU3_keep (ts : Array TypeId) (t : TypeId) (vs : Array Value) : Builtin.min_ ts t vs = minK_modU3 ts t vs := rfl
attribute [local go_sem ↓] minK_modU3_keep

theorem modU3 (a q : Int) (hq : 0 < q) (hq2 : q < 1000000) : ∃ k : Nat, IntKind.i64.wrap ((IntKind.u64.wrap a).tmod q) = k ∧ RowKit.wrap64 ((IntKind.u64.wrap a).tmod q) = k ∧ (k : Int) < q := by
  have h0' : 0 ≤ IntKind.u64.wrap a := by simp [IntKind.wrap, IntKind.bits, IntKind.signed]; omega
  generalize IntKind.u64.wrap a = u at *
  have e1 := Int.emod_nonneg u (show q ≠ 0 by omega)
  have e2 := Int.emod_lt_of_pos u hq
  rw [Int.tmod_eq_emod_of_nonneg h0']
  exact ⟨(u % q).toNat, by rw [IntKind.wrap_i64]; omega, by rw [IntWalk.wrap64_in _ (by omega)]; omega, by omega⟩
theorem addAll_I64 {o ms : List Int} (ho : ∀ x ∈ o, -605 ≤ x ∧ x ≤ 605) (hm : ∀ x ∈ ms, -605 ≤ x ∧ x ≤ 605) : ∀ x ∈ addAll o ms, -605 ≤ x ∧ x ≤ 605 := by
  unfold addAll
  induction ms generalizing o with
  | nil => exact ho
  | cons m ms ih =>
    rw [List.foldl_cons]
    refine ih ?_ (fun x hx => hm x (by simp [hx]))
    split
    · exact ho
    · intro x hx
      rcases List.mem_append.1 hx with h | h
      · exact ho x h
      · rw [List.mem_singleton.1 h]; exact hm m (by simp)
theorem metasOf_I64 (k : Nat) (hk : k < 600) {p : PathL} (hp : toP (k : Int) = some p) : ∀ x ∈ p.metas, -605 ≤ x ∧ x ≤ 605 := by
  have h : (List.range 600).all (fun k => match toP ((k : Nat) : Int) with | some p => p.metas.all (fun x => decide (-605 ≤ x ∧ x ≤ 605)) | none => true) = true := by decide +kernel
  have h1 := List.all_eq_true.1 h k (List.mem_range.2 hk)
  rw [hp] at h1
  intro x hx
  exact of_decide_eq_true (List.all_eq_true.1 h1 x hx)
theorem metasN_I64 (f : Nat) : ∀ k, f + k ≤ 600 → ∀ x ∈ metasN f k, -605 ≤ x ∧ x ≤ 605
  | 0, _ => by simp [metasN]
  | k + 1, h => by
    unfold metasN
    refine addAll_I64 (metasN_I64 f k (by omega)) ?_
    split
    · rename_i p hp; exact metasOf_I64 (f + k) (by omega) hp
    · simp
theorem nrow_gr {w w' : World} {base n : Nat} {A : Option Addr} {l : List Int} {b : Nat} (h : NRow w base A n l) (hg : w.grownBy w' (some b)) (hb : ∀ g, (Value.slice A 0 0).ownBlock = some g → g ≠ b) : NRow w' base A n l := by
  refine ⟨h.1, ?_⟩
  rcases h.2 with h0 | ⟨g, cur, rfl, h1, h2, h3⟩
  · exact .inl h0
  · exact .inr ⟨g, cur, rfl, h1, blk_gr h2 hg (fun e => hb g rfl (Option.some.inj e)), h3⟩
set_option maxHeartbeats 2000000 in
set_option maxRecDepth 100000 in
theorem every_yes (a1 a2 : Int) (w : World) (sp : SpanAt w) : Calls Tryd.prog 4 #[.int .i64 a1, .int .i64 a2] w fun e w' => e = .returned (.bool true) ∧ Below w.heap.size w w' := by
  have SP := hide sp
  clear sp
  obtain ⟨f, hk1, hk1', hf6⟩ := modU3 a1 600 (by decide) (by decide)
  obtain ⟨m, hk2, hk2', hm4⟩ := modU3 a2 40 (by decide) (by decide)
  have hf : f < 600 := by omega
  have hm : m < 40 := by omega
  have hw1 : IntKind.i64.wrap ((f : Int) + (m : Int)) = ((f + m : Nat) : Int) := by rw [IntKind.wrap_i64]; omega
  have hw2 : RowKit.wrap64 ((f : Int) + (m : Int)) = ((f + m : Nat) : Int) := by rw [IntWalk.wrap64_in _ (by omega)]; omega
  obtain ⟨z, hz⟩ : ∃ z, z = f + m := ⟨_, rfl⟩
  rw [← hz] at hw1 hw2
  obtain ⟨tt, hto⟩ : ∃ tt : Nat, tt = min z 600 := ⟨_, rfl⟩
  have hmin : ∀ (ts : Array TypeId) (t : TypeId) (w : World), (minK_modU3 ts t #[.int .i64 (z : Int), .int .i64 600]).run Tryd.prog w = .ok (.int .i64 (tt : Int)) w := fun ts t w => by
    rw [← minK_modU3_keep, run_min_int2, hto]
    split <;> (congr 2; omega)
  have hmm := @run_makeMap Tryd.prog
  have HZ := hide hz
  have HT := hide (show f ≤ tt ∧ tt ≤ 600 ∧ tt - f ≤ 40 by omega)
  clear hf6 hm4 hf hm hz hto
  go_enter Tryd.func4, Tryd.ntmps4
  go_wp2_with fail
  refine (awake04 w SP.out).mono ?_
  rintro e w1 ⟨rfl, hb1⟩
  have B1 := hide hb1
  clear hb1
  go_wp2_with fail
  refine (metas_yes f tt HT.out.1 HT.out.2.1 w1 (SP.out.bel B1.out)).mono ?_
  rintro e w2 ⟨A, n, rfl, hn, hb2⟩
  obtain ⟨q, hq⟩ : ∃ q, q = tt - f := ⟨_, rfl⟩
  rw [← hq] at hn
  have HQ := hide (show f + q = tt ∧ q ≤ 40 by have := HT.out; omega)
  have hn120 : n ≤ 120 := by have h1 := metasN_len f q; have h2 := HQ.out; rw [hn.1] at h1; omega
  have L2 := hide (hn.below ((Below.refl _ _).alloc (Nat.le_refl _) (.map #[] 0)))
  have M2 := hide (MapI.made w2)
  have B2 := hide ((B1.out.trans (hb2.mono B1.out.size)).alloc (Nat.le_trans B1.out.size hb2.size) (.map #[] 0))
  have hlo := hide (fun g hg => (hn.lt g hg).2)
  have hww := hide (Nat.le_trans B1.out.size hb2.size)
  clear hb2 hn B1 hk1 hk1' hk2 hk2' hw1 hw2 hq hmin HZ
  go_wp2_with fail
  generalize hw3 : w2.alloc _ = w3 at *
  have hb3 : w2.heap.size < w3.heap.size := by rw [← hw3]; simp
  clear hw3
  generalize w2.heap.size = mb at *
  go_loopw [9] (fun x wr => ∃ j c : Nat, j ≤ q ∧ c ≤ 3 * j ∧ x = .int .i64 ((f + j : Nat) : Int) ∧ MapI wr mb c (metasN f j) ∧ NRow wr w1.heap.size A n (metasN f q) ∧ Below w.heap.size w wr) (fun x _ => tt - (intOf x).toNat)
  case atStart => exact ⟨0, 0, Nat.zero_le _, Nat.zero_le _, rfl, M2.out, L2.out, B2.out⟩
  case round =>
    obtain ⟨wo, rfl⟩ : ∃ wo : World, wo = wr := ⟨_, rfl⟩
    obtain ⟨j, c, hj, hc, rfl, h1, h2, h3⟩ := hrel
    have M3 := hide h1
    have L3 := hide h2
    have B3 := hide h3
    clear h1 h2 h3 M2 L2 B2
    obtain ⟨nn, hnn⟩ : ∃ nn, nn = f + j := ⟨_, rfl⟩
    rw [← hnn]
    have HNN := hide hnn
    by_cases hlt : j < q
    · have hltt : nn < tt := by have := HQ.out; omega
      have hn6 : nn < 600 := by have := HT.out; omega
      obtain ⟨p, hp⟩ := toP_data hn6
      have hst : Hid (metasN f (j + 1) = addAll (metasN f j) p.metas) := hide (by
        show addAll (metasN f j) (match toP ((f + j : Nat) : Int) with | some p => p.metas | none => []) = _
        rw [← hnn, hp])
      have HPI := hide (metasOf_I64 nn hn6 hp)
      have hpl := (toP_len hp).2.1
      have C := hide (to_any (nn : Int) ⟨by omega, by omega⟩ hp wo (SP.out.bel B3.out))
      unfold pathA at C
      obtain ⟨pl, hpl2⟩ : ∃ pl, pl = p.metas.length := ⟨_, rfl⟩
      rw [← hpl2] at C hpl
      have HPL := hide hpl2
      clear hnn hp hpl2
      go_wp2_with fail
      refine C.out.mono ?_
      rintro e v1 ⟨A1, c1, A2, c2, rfl, hpm, hb1⟩
      have hb2 := hb1.alloc hb1.size (.cells #[.int .i64 (p.root : Int), .slice A1 pl c1, .slice A2 pl c2] 34)
      have P1 := hide (own_bel hpm.m ((Below.refl _ _).alloc (Nat.le_refl _) (.cells #[.int .i64 (p.root : Int), .slice A1 pl c1, .slice A2 pl c2] 34)))
      have M4 := hide (M3.out.below hb2)
      have L4 := hide (L3.out.below hb2)
      have B4 := hide (B3.out.trans (hb2.mono B3.out.size))
      have hmo := hide M3.out.lt
      clear hpm hb1 hb2 C M3 L3 B3
      go_wp2_with fail
      generalize v1.alloc (.cells #[.int .i64 (p.root : Int), .slice A1 pl c1, .slice A2 pl c2] 34) = v2 at *
      go_loopw [55] (fun x wr => ∃ i c' : Nat, i ≤ pl ∧ c' ≤ 3 * j + i ∧ x = .int .i64 (i : Int) ∧ MapI wr mb c' (addAll (metasN f j) (p.metas.take i)) ∧ NRow wr w1.heap.size A n (metasN f q) ∧ Below w.heap.size w wr ∧ wr.ownsRow wo.heap.size 3 1 (.slice A1 pl c1) pl (intC p.metas)) (fun x _ => pl - (intOf x).toNat)
      case atStart => exact ⟨0, c, Nat.zero_le _, by omega, rfl, M4.out, L4.out, B4.out, P1.out⟩
      case round =>
        obtain ⟨i, c', hi, hc', rfl, h1, h2, h3, h4⟩ := hrel
        have M5 := hide h1
        have L5 := hide h2
        have B5 := hide h3
        have P5 := hide h4
        clear h1 h2 h3 h4 M4 L4 B4 P1
        by_cases hlt2 : i < pl
        · obtain ⟨g, x, hx, hA, hg1, hg2, q1⟩ := own_atI P5.out hlt2
          subst hA
          have hxi := HPI.out x (List.mem_of_getElem? hx)
          have hst2 := hide (addAll_step (o := metasN f j) hx)
          have hxi2 : -9223372036854775808 ≤ x ∧ x ≤ 9223372036854775807 := by omega
          obtain ⟨cc, hrun, hin, hout⟩ := M5.out.look x hxi2
          have hcc : 0 ≤ cc ∧ cc ≤ c' := by
            by_cases h : x ∈ addAll (metasN f j) (p.metas.take i)
            · have := hin h; omega
            · have := hout h; omega
          obtain ⟨w4, hrun2, hm4, hgr⟩ := M5.out.up x hxi2 (by have := HQ.out; omega) (cc + 1) (by omega)
          have M6 := hide hm4
          have L6 := hide (nrow_gr L5.out hgr (fun g hg => by have := hlo.out g hg; omega))
          have B6 := hide (bel_gr B5.out hgr (fun g e => by injection e with e; subst e; exact hww.out) B5.out.size)
          have P6 := hide (own_gr P5.out hgr (fun g' hg' e => by
            have h1 := (P5.out.lt g' hg').1
            injection e with e
            have := hmo.out
            omega))
          have hwr : IntKind.i64.wrap (cc + 1) = cc + 1 := by have := HQ.out; rw [IntKind.wrap_i64]; omega
          have hwr2 : RowKit.wrap64 (cc + 1) = cc + 1 := by have := HQ.out; rw [IntWalk.wrap64_in _ (by omega)]
          clear hx hxi hxi2 hin hout hcc hm4 hgr
          go_wp2_with fail
          go_roundw
          case rel => exact ⟨i + 1, c' + 1, by omega, by omega, by go_num, by rw [hst2.out]; exact M6.out, L6.out, B6.out, P6.out⟩
          case measure => simp [intOf]; omega
        · have hip : i = pl := by omega
          subst hip
          have hall : Hid (addAll (metasN f j) (p.metas.take i) = metasN f (j + 1)) := hide (by rw [hst.out, List.take_of_length_le (by rw [HPL.out]; exact Nat.le_refl _)])
          rw [hall.out] at M5
          clear hall
          go_wp2_with fail
          go_roundw
          case rel => exact ⟨j + 1, c', by omega, by omega, by rw [show f + (j + 1) = nn + 1 by have := HNN.out; omega]; go_num, M5.out, L5.out, B5.out⟩
          case measure => simp [intOf]; omega
    · have hjq : j = q := by omega
      have hntt : ¬ nn < tt := by have := HNN.out; have := HQ.out; omega
      rw [hjq] at M3
      clear hnn hjq
      go_wp2_with fail
      go_loop [66] (fun x => ∃ i : Nat, i ≤ n ∧ x = .int .i64 (i : Int)) (fun x => n - (intOf x).toNat)
      case atStart => exact ⟨0, Nat.zero_le _, rfl⟩
      case round =>
        obtain ⟨i, hi, rfl⟩ := hrel
        by_cases hlt2 : i < n
        · obtain ⟨g, x, hx, hA, hg1, hg2, q1, -, -⟩ := L3.out.at hlt2
          subst hA
          have hmem := List.mem_of_getElem? hx
          have hxi := metasN_I64 f q (by have := HQ.out; have := HT.out; omega) x hmem
          obtain ⟨cc, hrun, hin, -⟩ := M3.out.look x (by omega)
          have hc0 : (cc == 0) = false := by rw [beq_eq_false_iff_ne]; have := hin hmem; omega
          clear hx hmem hxi hin
          go_wp2_with fail
          go_round
          case rel => exact ⟨i + 1, by omega, by go_num⟩
          case measure => simp [intOf]; omega
        · have hlen := fun ty => M3.out.len ty
          rw [L3.out.1] at hlen
          go_wp2_with fail
          go_ret
          exact ⟨rfl, B3.out⟩
end Go.Proofs.YtakflabokbaibaaDoor
