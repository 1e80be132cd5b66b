/- The walk over marllaw13.PackTwice. -/
import Derived.Test.YtopjkpopdffkeaaPkAwW
import Derived.Test.YtopjkpopdffkeaaPkFewW
import Derived.Test.YtopjkpopdffkeaaPkAllL
import Derived.Test.YtopjkpopdffkeaaPkOneW
import Derived.Test.YtopjkpopdffkeaaSameW
namespace Go.Proofs.Ytopjkpopdffkeaa
open Go.RowKit
attribute [local go_sem ↓] Go.wp_at_zero Go.wp_at_succ

set_option maxRecDepth 100000 in
set_option maxHeartbeats 4000000 in
theorem twice_all (A A' : Option Addr) (m c m' c' : Nat) (files : List FI) (inos : List Int) (x : Int) (w : World) (hf : FisAt 0 w.heap.size w A m files) (hi : IntsAt 0 w.heap.size w A' m' inos) (hm63 : m ≤ 9223372036854775807) (hm63' : m' ≤ 9223372036854775807) (hls : ∀ f ∈ files, f.ls.length ≤ 9223372036854775807) :
    Calls Try.prog 6 #[.slice A m c, .slice A' m' c', .int .i64 x] w fun e w' => e = .returned (.bool true) ∧ Below w.heap.size w w' := by
  have mx : wrap64 ((IntKind.u64.wrap x).tmod 57) = (mdN x 57 : Int) := mdN_w64 x 57 (by decide) (by decide)
  have lx := mdN_lt x (show 0 < 57 by decide)
  generalize mdN x 57 = s at *
  have HF := hide hf
  have HI := hide hi
  have HLS := hide hls
  clear hf hi hls
  go_enter Try.func6, Try.ntmps6
  go_wp2_with fail
  refine (awake13 w).mono ?_
  rintro e w1 ⟨rfl, hb⟩
  have B1 := hide hb
  clear hb
  go_wp2_with fail
  refine (few_any A A' m c m' c' _ _ _ _ files inos w1 (HF.out.below B1.out) (RwAt.below HI.out B1.out) hm63 hm63' HLS.out).mono ?_
  rintro e w2 ⟨rfl, hb⟩
  have B2 := hide (B1.out.trans (hb.mono B1.out.size))
  clear hb B1
  by_cases hfew : fewP files inos
  · rw [decide_eq_true hfew]
    have HFEW := hide hfew
    clear hfew
    go_wp2_with fail
    simp only [mx]
    clear mx
    have hw8 : wrap64 ((s : Int) + 8) = (s : Int) + 8 := IntWalk.wrap64_in _ (by omega)
    try simp only [hw8]
    have HL1 := hide (HF.out.len)
    have HL2 := hide (IntsAt.len HI.out)
    go_loopw [7] (fun y wr => ∃ j : Nat, j ≤ 3 ∧ y = .int .i64 (j : Int) ∧ Below w.heap.size w wr) (fun y _ => 3 - (intOf y).toNat)
    case atStart => exact ⟨0, Nat.zero_le _, rfl, B2.out⟩
    case round =>
      obtain ⟨j, hj, rfl, hb⟩ := hrel
      have Hb := hide hb
      clear hb
      by_cases hlt : j < 3
      · have hj2 : (j : Int) ≤ 2 := by omega
        go_wp2_with fail
        have C1 := plan_good A A' m c m' c' _ _ _ _ files inos (j : Int) ((s : Int) + 8) wr (HF.out.below Hb.out) (RwAt.below HI.out Hb.out) Hb.out.size Hb.out.size (by have := HFEW.out.1; have := HL1.out; omega) (by have := HFEW.out.2; have := HL2.out; omega) (by have := HFEW.out.2; omega) (by unfold badP; omega)
        refine C1.mono ?_
        rintro e w4 ⟨hb4, hq4⟩
        have B4 := hide (Hb.out.trans (hb4.mono Hb.out.size))
        have TO := hide (twice_out (files := files) (inos := inos) (left := (j : Int)) (size := (s : Int) + 8) hj2)
        clear C1 hb4
        rcases hR : goS (actsA files inos) (startS (j : Int) ((s : Int) + 8)) with _ | sa
        · have hR2 : goS (actsA files inos) (startS 0 ((s : Int) + 8)) = none := by
            have := TO.out
            rw [hR] at this
            exact Option.map_eq_none_iff.1 this.symm
          rw [hR] at hq4
          obtain rfl : e = _ := hq4
          go_wp2_with fail
          have C2 := plan_good A A' m c m' c' _ _ _ _ files inos 0 ((s : Int) + 8) w4 (HF.out.below B4.out) (RwAt.below HI.out B4.out) B4.out.size B4.out.size (by have := HFEW.out.1; have := HL1.out; omega) (by have := HFEW.out.2; have := HL2.out; omega) (by have := HFEW.out.2; omega) (by unfold badP; omega)
          rw [hR2] at C2
          refine C2.mono ?_
          rintro e w5 ⟨hb5, hq5⟩
          obtain rfl : e = _ := hq5
          have B5 := hide (B4.out.trans (hb5.mono B4.out.size))
          clear C2 hb5 hR hR2
          go_wp2_with fail
          go_loopw [12, 58] (fun _ z wq => z = .int .i64 0 ∧ Below w.heap.size w wq) (fun _ _ _ => 0)
          case atStart => exact ⟨rfl, B5.out⟩
          case round =>
            obtain ⟨rfl, hb⟩ := hrel
            have B6 := hide hb
            clear hb
            go_wp2_with fail
            go_roundw
            case rel => exact ⟨j + 1, by omega, by go_num, B6.out⟩
            case measure => simp [intOf]; omega
        · have hR2 : ∃ sb, goS (actsA files inos) (startS 0 ((s : Int) + 8)) = some sb ∧ sb.out = sa.out := by
            have := TO.out
            rw [hR] at this
            obtain ⟨sb, h1, h2⟩ := Option.map_eq_some_iff.1 this.symm
            exact ⟨sb, h1, h2⟩
          obtain ⟨sb, hR2, hsb⟩ := hR2
          have BD := hide (plan_bd (by omega) (by omega) (by omega) hR)
          have NW := hide (fun h => twice_new (by omega) (by omega) hj2 hR h)
          rw [hR] at hq4
          obtain ⟨PA, da, rfl, hOA⟩ := hq4
          have OA := hide hOA
          clear hOA
          obtain ⟨L, hL⟩ : ∃ L, L = sa.out.length := ⟨_, rfl⟩
          obtain ⟨ps, hps⟩ : ∃ ps, ps = sa.out := ⟨_, rfl⟩
          rw [← hL, ← hps] at OA
          rw [← hL, ← hps] at BD
          rw [← hps] at NW hsb
          rw [← hL]
          have HLP := hide (show ps.length = L by rw [hps, hL])
          have SB := hide hsb
          have hL600 : L ≤ 600 := by have := BD.out.1; have := HFEW.out.2; omega
          clear hL hps hR hsb
          clear sa
          go_wp2_with fail
          have C2 := plan_good A A' m c m' c' _ _ _ _ files inos 0 ((s : Int) + 8) w4 (HF.out.below B4.out) (RwAt.below HI.out B4.out) B4.out.size B4.out.size (by have := HFEW.out.1; have := HL1.out; omega) (by have := HFEW.out.2; have := HL2.out; omega) (by have := HFEW.out.2; omega) (by unfold badP; omega)
          rw [hR2] at C2
          refine C2.mono ?_
          rintro e w5 ⟨hb5, PB, db, rfl, hOB⟩
          rw [SB.out] at hOB
          have OB := hide hOB
          rw [SB.out, HLP.out]
          rw [HLP.out] at OB
          have OA5 := hide (OA.out.below hb5)
          have B5 := hide (B4.out.trans (hb5.mono B4.out.size))
          clear C2 hb5 hOB hR2 OA SB
          clear sb
          go_wp2_with fail
          go_loopw [12, 58] (fun _ z wq => ∃ i : Nat, i ≤ L ∧ z = .int .i64 (i : Int) ∧ Below w5.heap.size w5 wq) (fun _ z _ => L - (intOf z).toNat)
          case atStart => exact ⟨0, Nat.zero_le _, rfl, Below.refl _ _⟩
          case round =>
            obtain ⟨i, hiL, rfl, hb⟩ := hrel
            have Hb6 := hide hb
            clear hb
            by_cases hlt' : i < L
            · obtain ⟨g, p, A1, c1, A2, c2, hA, hg0, ⟨csg, hgb⟩, hp, hf1, hi1, q0, q1, q2⟩ := (OA5.out.below Hb6.out).at hlt'
              obtain ⟨g', p', A1', c1', A2', c2', hA', hg0', ⟨csg', hgb'⟩, hp', hf1', hi1', r0, r1, r2⟩ := (OB.out.below Hb6.out).at hlt'
              have epp : p' = p := by rw [hp] at hp'; exact (Option.some.inj hp').symm
              subst epp hA hA'
              obtain ⟨d1, d2, d3, d4⟩ := BD.out.2 p' (List.mem_of_getElem? hp)
              have D1 := hide (show p'.fs.length ≤ 1000000 by have := HFEW.out.2; omega)
              have D2 := hide (show p'.is.length ≤ 1000000 by have := HFEW.out.2; omega)
              have D4 := hide (show ∀ f ∈ p'.fs, f.ls.length ≤ 1000000 from fun f hf => by have := (d4 f hf).2; omega)
              have SQ := hide (show decide (sameQ 0 0 0 0 0 0 0 0 0 0 p'.fs p'.fs p'.is p'.is) = true from decide_eq_true ⟨⟨rfl, rfl, rfl, rfl, rfl⟩, rfl, rfl⟩)
              have F1 := hide hf1
              have F1' := hide hf1'
              have I1 := hide hi1
              have I1' := hide hi1'
              have GL := hide hgb.lt
              have GL' := hide hgb'.lt
              obtain ⟨n1, hn1⟩ : ∃ n, n = p'.fs.length := ⟨_, rfl⟩
              obtain ⟨n2, hn2⟩ : ∃ n, n = p'.is.length := ⟨_, rfl⟩
              obtain ⟨nw, hnw⟩ : ∃ n, n = p'.nw := ⟨_, rfl⟩
              rw [← hn1] at F1 F1' D1 q1 r1
              rw [← hn2] at I1 I1' D2 q2 r2
              rw [← hnw] at q0 r0
              have CC := hide (fun (w' : World) (hb : Below wr.heap.size wr w') => show w'.cell? ⟨g, i * 3, none⟩ = some (.bool nw) ∧ w'.cell? ⟨g, i * 3 + 1, none⟩ = some (.slice A1 n1 c1) ∧ w'.cell? ⟨g, i * 3 + 2, none⟩ = some (.slice A2 n2 c2) ∧
                  w'.cell? ⟨g', i * 3, none⟩ = some (.bool nw) ∧ w'.cell? ⟨g', i * 3 + 1, none⟩ = some (.slice A1' n1 c1') ∧ w'.cell? ⟨g', i * 3 + 2, none⟩ = some (.slice A2' n2 c2') from
                ⟨(hb.cell (p := ⟨g, i * 3, none⟩) GL.out).trans q0, (hb.cell (p := ⟨g, i * 3 + 1, none⟩) GL.out).trans q1, (hb.cell (p := ⟨g, i * 3 + 2, none⟩) GL.out).trans q2, (hb.cell (p := ⟨g', i * 3, none⟩) GL'.out).trans r0, (hb.cell (p := ⟨g', i * 3 + 1, none⟩) GL'.out).trans r1, (hb.cell (p := ⟨g', i * 3 + 2, none⟩) GL'.out).trans r2⟩)
              clear hp hp' hf1 hf1' hi1 hi1' hgb hgb' d1 d2 d3 d4 q0 q1 q2 r0 r1 r2 hn1 hn2 hnw hg0 hg0'
              have his : (i : Int) < (L : Int) := by omega
              have hw64 : IntKind.i64.wrap (i : Int) = (i : Int) := by rw [IntKind.wrap_i64]; omega
              go_wp2_with fail
              have s0 := CC.out _ (Below.refl _ _).drew
              refine wp_region_noPanic ?_
              refine wp_region_held_drew (S := (fun w' => w'.cell? ⟨g, i * 3, none⟩ = some (.bool nw) ∧ w'.cell? ⟨g, i * 3 + 1, none⟩ = some (.slice A1 n1 c1) ∧ w'.cell? ⟨g, i * 3 + 2, none⟩ = some (.slice A2 n2 c2) ∧ w'.cell? ⟨g', i * 3, none⟩ = some (.bool nw) ∧ w'.cell? ⟨g', i * 3 + 1, none⟩ = some (.slice A1' n1 c1') ∧ w'.cell? ⟨g', i * 3 + 2, none⟩ = some (.slice A2' n2 c2'))) (by kernel_rfl) ?_ (fun hHeld => ?_)
              · ((try dsimp only) <;> (first | trivial | assumption | go_keep))
              clear s0
              have BDr := hide ((Below.refl wr.heap.size wr).drew)
              refine wpAnyH_take (i := 0) (v := ?_) (by simp only [List.getElem?_toArray, List.getElem?_cons_succ, List.getElem?_cons_zero]; rfl) (by kernel_rfl) (by kernel_rfl) (by kernel_rfl) (fun _ _ _ h => h) (Or.inl ⟨by rfl, ?_⟩) (by assumption) ?_
              rotate_left 1
              · (intro w hSw; (try dsimp only at hSw); go_simp; try with_reducible rfl)
              try simp only [Act.put, List.setIfInBounds_toArray, List.set_cons_zero, List.set_cons_succ]
              refine wpAnyH_take (i := 1) (v := ?_) (by simp only [List.getElem?_toArray, List.getElem?_cons_succ, List.getElem?_cons_zero]; rfl) (by kernel_rfl) (by kernel_rfl) (by kernel_rfl) (fun _ _ _ h => h) (Or.inl ⟨by rfl, ?_⟩) (by assumption) ?_
              rotate_left 1
              · (intro w hSw; (try dsimp only at hSw); go_simp; try with_reducible rfl)
              try simp only [Act.put, List.setIfInBounds_toArray, List.set_cons_zero, List.set_cons_succ]
              refine wpAnyH_take (i := 2) (v := ?_) (by simp only [List.getElem?_toArray, List.getElem?_cons_succ, List.getElem?_cons_zero]; rfl) (by kernel_rfl) (by kernel_rfl) (by kernel_rfl) (fun _ _ _ h => h) (Or.inl ⟨by rfl, ?_⟩) (by assumption) ?_
              rotate_left 1
              · (intro w hSw; (try dsimp only at hSw); go_simp; try with_reducible rfl)
              try simp only [Act.put, List.setIfInBounds_toArray, List.set_cons_zero, List.set_cons_succ]
              refine wpAnyH_take (i := 3) (v := ?_) (by simp only [List.getElem?_toArray, List.getElem?_cons_succ, List.getElem?_cons_zero]; rfl) (by kernel_rfl) (by kernel_rfl) (by kernel_rfl) (fun _ _ _ h => h) (Or.inl ⟨by rfl, ?_⟩) (by assumption) ?_
              rotate_left 1
              · (intro w hSw; (try dsimp only at hSw); go_simp; try with_reducible rfl)
              try simp only [Act.put, List.setIfInBounds_toArray, List.set_cons_zero, List.set_cons_succ]
              refine wpAnyH_take (i := 4) (v := ?_) (by simp only [List.getElem?_toArray, List.getElem?_cons_succ, List.getElem?_cons_zero]; rfl) (by kernel_rfl) (by kernel_rfl) (by kernel_rfl) (fun _ _ _ h => h) (Or.inl ⟨by rfl, ?_⟩) (by assumption) ?_
              rotate_left 1
              · (intro w hSw; (try dsimp only at hSw); go_simp; try with_reducible rfl)
              try simp only [Act.put, List.setIfInBounds_toArray, List.set_cons_zero, List.set_cons_succ]
              refine wpAnyH_take (i := 5) (v := ?_) (by simp only [List.getElem?_toArray, List.getElem?_cons_succ, List.getElem?_cons_zero]; rfl) (by kernel_rfl) (by kernel_rfl) (by kernel_rfl) (fun _ _ _ h => h) (Or.inl ⟨by rfl, ?_⟩) (by assumption) ?_
              rotate_left 1
              · (intro w hSw; (try dsimp only at hSw); go_simp; try with_reducible rfl)
              try simp only [Act.put, List.setIfInBounds_toArray, List.set_cons_zero, List.set_cons_succ]
              refine wpAnyH_take (i := 6) (v := ?_) (by simp only [List.getElem?_toArray, List.getElem?_cons_succ, List.getElem?_cons_zero]; rfl) (by kernel_rfl) (by kernel_rfl) (by kernel_rfl) (fun _ _ _ h => h) (Or.inl ⟨by rfl, ?_⟩) (by assumption) ?_
              rotate_left 1
              · (intro w hSw; (try dsimp only at hSw); go_simp; try with_reducible rfl)
              try simp only [Act.put, List.setIfInBounds_toArray, List.set_cons_zero, List.set_cons_succ]
              refine wpAnyH_take (i := 7) (v := ?_) (by simp only [List.getElem?_toArray, List.getElem?_cons_succ, List.getElem?_cons_zero]; rfl) (by kernel_rfl) (by kernel_rfl) (by kernel_rfl) (fun _ _ _ h => h) (Or.inl ⟨by rfl, ?_⟩) (by assumption) ?_
              rotate_left 1
              · (intro w hSw; (try dsimp only at hSw); go_simp; try with_reducible rfl)
              try simp only [Act.put, List.setIfInBounds_toArray, List.set_cons_zero, List.set_cons_succ]
              refine wpAnyH_take (i := 8) (v := ?_) (by simp only [List.getElem?_toArray, List.getElem?_cons_succ, List.getElem?_cons_zero]; rfl) (by kernel_rfl) (by kernel_rfl) (by kernel_rfl) (fun _ _ _ h => h) (Or.inl ⟨by rfl, ?_⟩) (by assumption) ?_
              rotate_left 1
              · (intro w hSw; (try dsimp only at hSw); go_simp; try with_reducible rfl)
              try simp only [Act.put, List.setIfInBounds_toArray, List.set_cons_zero, List.set_cons_succ]
              refine wpAnyH_take (i := 9) (v := ?_) (by simp only [List.getElem?_toArray, List.getElem?_cons_succ, List.getElem?_cons_zero]; rfl) (by kernel_rfl) (by kernel_rfl) (by kernel_rfl) (fun _ _ _ h => h) (Or.inl ⟨by rfl, ?_⟩) (by assumption) ?_
              rotate_left 1
              · (intro w hSw; (try dsimp only at hSw); go_simp; try with_reducible rfl)
              try simp only [Act.put, List.setIfInBounds_toArray, List.set_cons_zero, List.set_cons_succ]
              refine wpAnyH_take (i := 10) (v := ?_) (by simp only [List.getElem?_toArray, List.getElem?_cons_succ, List.getElem?_cons_zero]; rfl) (by kernel_rfl) (by kernel_rfl) (by kernel_rfl) (fun _ _ _ h => h) (Or.inl ⟨by rfl, ?_⟩) (by assumption) ?_
              rotate_left 1
              · (intro w hSw; (try dsimp only at hSw); go_simp; try with_reducible rfl)
              try simp only [Act.put, List.setIfInBounds_toArray, List.set_cons_zero, List.set_cons_succ]
              refine wpAnyH_take (i := 11) (v := ?_) (by simp only [List.getElem?_toArray, List.getElem?_cons_succ, List.getElem?_cons_zero]; rfl) (by kernel_rfl) (by kernel_rfl) (by kernel_rfl) (fun _ _ _ h => h) (Or.inl ⟨by rfl, ?_⟩) (by assumption) ?_
              rotate_left 1
              · (intro w hSw; (try dsimp only at hSw); go_simp; try with_reducible rfl)
              try simp only [Act.put, List.setIfInBounds_toArray, List.set_cons_zero, List.set_cons_succ]
              refine wpAnyH_take (i := 12) (v := ?_) (by simp only [List.getElem?_toArray, List.getElem?_cons_succ, List.getElem?_cons_zero]; rfl) (by kernel_rfl) (by kernel_rfl) (by kernel_rfl) (fun _ _ _ h => h) (Or.inl ⟨by rfl, ?_⟩) (by assumption) ?_
              rotate_left 1
              · (intro w hSw; (try dsimp only at hSw); go_simp; try with_reducible rfl)
              try simp only [Act.put, List.setIfInBounds_toArray, List.set_cons_zero, List.set_cons_succ]
              refine wpAnyH_take (i := 13) (v := ?_) (by simp only [List.getElem?_toArray, List.getElem?_cons_succ, List.getElem?_cons_zero]; rfl) (by kernel_rfl) (by kernel_rfl) (by kernel_rfl) (fun _ _ _ h => h) (Or.inl ⟨by rfl, ?_⟩) (by assumption) ?_
              rotate_left 1
              · (intro w hSw; (try dsimp only at hSw); go_simp; try with_reducible rfl)
              try simp only [Act.put, List.setIfInBounds_toArray, List.set_cons_zero, List.set_cons_succ]
              refine wpAnyH_take (i := 14) (v := ?_) (by simp only [List.getElem?_toArray, List.getElem?_cons_succ, List.getElem?_cons_zero]; rfl) (by kernel_rfl) (by kernel_rfl) (by kernel_rfl) (fun _ _ _ h => h) (Or.inl ⟨by rfl, ?_⟩) (by assumption) ?_
              rotate_left 1
              · (intro w hSw; (try dsimp only at hSw); go_simp; try with_reducible rfl)
              try simp only [Act.put, List.setIfInBounds_toArray, List.set_cons_zero, List.set_cons_succ]
              refine wpAnyH_take (i := 15) (v := ?_) (by simp only [List.getElem?_toArray, List.getElem?_cons_succ, List.getElem?_cons_zero]; rfl) (by kernel_rfl) (by kernel_rfl) (by kernel_rfl) (fun _ _ _ h => h) (Or.inl ⟨by rfl, ?_⟩) (by assumption) ?_
              rotate_left 1
              · (intro w hSw; (try dsimp only at hSw); go_simp; try with_reducible rfl)
              try simp only [Act.put, List.setIfInBounds_toArray, List.set_cons_zero, List.set_cons_succ]
              refine wpAnyH_take (i := 16) (v := ?_) (by simp only [List.getElem?_toArray, List.getElem?_cons_succ, List.getElem?_cons_zero]; rfl) (by kernel_rfl) (by kernel_rfl) (by kernel_rfl) (fun _ _ _ h => h) (Or.inl ⟨by rfl, ?_⟩) (by assumption) ?_
              rotate_left 1
              · (intro w hSw; (try dsimp only at hSw); go_simp; try with_reducible rfl)
              try simp only [Act.put, List.setIfInBounds_toArray, List.set_cons_zero, List.set_cons_succ]
              refine wpAnyH_take (i := 17) (v := ?_) (by simp only [List.getElem?_toArray, List.getElem?_cons_succ, List.getElem?_cons_zero]; rfl) (by kernel_rfl) (by kernel_rfl) (by kernel_rfl) (fun _ _ _ h => h) (Or.inl ⟨by rfl, ?_⟩) (by assumption) ?_
              rotate_left 1
              · (intro w hSw; (try dsimp only at hSw); go_simp; try with_reducible rfl)
              try simp only [Act.put, List.setIfInBounds_toArray, List.set_cons_zero, List.set_cons_succ]
              refine wpAnyH_take (i := 18) (v := ?_) (by simp only [List.getElem?_toArray, List.getElem?_cons_succ, List.getElem?_cons_zero]; rfl) (by kernel_rfl) (by kernel_rfl) (by kernel_rfl) (fun _ _ _ h => h) (Or.inl ⟨by rfl, ?_⟩) (by assumption) ?_
              rotate_left 1
              · (intro w hSw; (try dsimp only at hSw); go_simp; try with_reducible rfl)
              try simp only [Act.put, List.setIfInBounds_toArray, List.set_cons_zero, List.set_cons_succ]
              refine wpAnyH_take (i := 19) (v := ?_) (by simp only [List.getElem?_toArray, List.getElem?_cons_succ, List.getElem?_cons_zero]; rfl) (by kernel_rfl) (by kernel_rfl) (by kernel_rfl) (fun _ _ _ h => h) (Or.inl ⟨by rfl, ?_⟩) (by assumption) ?_
              rotate_left 1
              · (intro w hSw; (try dsimp only at hSw); go_simp; try with_reducible rfl)
              try simp only [Act.put, List.setIfInBounds_toArray, List.set_cons_zero, List.set_cons_succ]
              refine wpAnyH_take (i := 20) (v := ?_) (by simp only [List.getElem?_toArray, List.getElem?_cons_succ, List.getElem?_cons_zero]; rfl) (by kernel_rfl) (by kernel_rfl) (by kernel_rfl) (fun _ _ _ h => h) (Or.inl ⟨by rfl, ?_⟩) (by assumption) ?_
              rotate_left 1
              · (intro w hSw; (try dsimp only at hSw); go_simp; try with_reducible rfl)
              try simp only [Act.put, List.setIfInBounds_toArray, List.set_cons_zero, List.set_cons_succ]
              refine wpAnyH_take (i := 21) (v := ?_) (by simp only [List.getElem?_toArray, List.getElem?_cons_succ, List.getElem?_cons_zero]; rfl) (by kernel_rfl) (by kernel_rfl) (by kernel_rfl) (fun _ _ _ h => h) (Or.inl ⟨by rfl, ?_⟩) (by assumption) ?_
              rotate_left 1
              · (intro w hSw; (try dsimp only at hSw); go_simp; try with_reducible rfl)
              try simp only [Act.put, List.setIfInBounds_toArray, List.set_cons_zero, List.set_cons_succ]
              refine wpAnyH_take (i := 22) (v := ?_) (by simp only [List.getElem?_toArray, List.getElem?_cons_succ, List.getElem?_cons_zero]; rfl) (by kernel_rfl) (by kernel_rfl) (by kernel_rfl) (fun _ _ _ h => h) (Or.inl ⟨by rfl, ?_⟩) (by assumption) ?_
              rotate_left 1
              · (intro w hSw; (try dsimp only at hSw); go_simp; try with_reducible rfl)
              try simp only [Act.put, List.setIfInBounds_toArray, List.set_cons_zero, List.set_cons_succ]
              refine wpAnyH_take (i := 23) (v := ?_) (by simp only [List.getElem?_toArray, List.getElem?_cons_succ, List.getElem?_cons_zero]; rfl) (by kernel_rfl) (by kernel_rfl) (by kernel_rfl) (fun _ _ _ h => h) (Or.inl ⟨by rfl, ?_⟩) (by assumption) ?_
              rotate_left 1
              · (intro w hSw; (try dsimp only at hSw); go_simp; try with_reducible rfl)
              try simp only [Act.put, List.setIfInBounds_toArray, List.set_cons_zero, List.set_cons_succ]
              refine wpAnyH_take (i := 24) (v := ?_) (by simp only [List.getElem?_toArray, List.getElem?_cons_succ, List.getElem?_cons_zero]; rfl) (by kernel_rfl) (by kernel_rfl) (by kernel_rfl) (fun _ _ _ h => h) (Or.inl ⟨by rfl, ?_⟩) (by assumption) ?_
              rotate_left 1
              · (intro w hSw; (try dsimp only at hSw); go_simp; try with_reducible rfl)
              try simp only [Act.put, List.setIfInBounds_toArray, List.set_cons_zero, List.set_cons_succ]
              refine wpAnyH_take (i := 25) (v := ?_) (by simp only [List.getElem?_toArray, List.getElem?_cons_succ, List.getElem?_cons_zero]; rfl) (by kernel_rfl) (by kernel_rfl) (by kernel_rfl) (fun _ _ _ h => h) (Or.inl ⟨by rfl, ?_⟩) (by assumption) ?_
              rotate_left 1
              · (intro w hSw; (try dsimp only at hSw); go_simp; try with_reducible rfl)
              try simp only [Act.put, List.setIfInBounds_toArray, List.set_cons_zero, List.set_cons_succ]
              refine wpAnyH_take (i := 26) (v := ?_) (by simp only [List.getElem?_toArray, List.getElem?_cons_succ, List.getElem?_cons_zero]; rfl) (by kernel_rfl) (by kernel_rfl) (by kernel_rfl) (fun _ _ _ h => h) (Or.inl ⟨by rfl, ?_⟩) (by assumption) ?_
              rotate_left 1
              · (intro w hSw; (try dsimp only at hSw); go_simp; try with_reducible rfl)
              try simp only [Act.put, List.setIfInBounds_toArray, List.set_cons_zero, List.set_cons_succ]
              refine wpAnyH_take (i := 27) (v := ?_) (by simp only [List.getElem?_toArray, List.getElem?_cons_succ, List.getElem?_cons_zero]; rfl) (by kernel_rfl) (by kernel_rfl) (by kernel_rfl) (fun _ _ _ h => h) (Or.inl ⟨by rfl, ?_⟩) (by assumption) ?_
              rotate_left 1
              · (intro w hSw; (try dsimp only at hSw); go_simp; try with_reducible rfl)
              try simp only [Act.put, List.setIfInBounds_toArray, List.set_cons_zero, List.set_cons_succ]
              refine wpAnyH_take (i := 28) (v := ?_) (by simp only [List.getElem?_toArray, List.getElem?_cons_succ, List.getElem?_cons_zero]; rfl) (by kernel_rfl) (by kernel_rfl) (by kernel_rfl) (fun _ _ _ h => h) (Or.inl ⟨by rfl, ?_⟩) (by assumption) ?_
              rotate_left 1
              · (intro w hSw; (try dsimp only at hSw); go_simp; try with_reducible rfl)
              try simp only [Act.put, List.setIfInBounds_toArray, List.set_cons_zero, List.set_cons_succ]
              refine wpAnyH_take (i := 29) (v := ?_) (by simp only [List.getElem?_toArray, List.getElem?_cons_succ, List.getElem?_cons_zero]; rfl) (by kernel_rfl) (by kernel_rfl) (by kernel_rfl) (fun _ _ _ h => h) (Or.inl ⟨by rfl, ?_⟩) (by assumption) ?_
              rotate_left 1
              · (intro w hSw; (try dsimp only at hSw); go_simp; try with_reducible rfl)
              try simp only [Act.put, List.setIfInBounds_toArray, List.set_cons_zero, List.set_cons_succ]
              refine wpAnyH_take (i := 30) (v := ?_) (by simp only [List.getElem?_toArray, List.getElem?_cons_succ, List.getElem?_cons_zero]; rfl) (by kernel_rfl) (by kernel_rfl) (by kernel_rfl) (fun _ _ _ h => h) (Or.inl ⟨by rfl, ?_⟩) (by assumption) ?_
              rotate_left 1
              · (intro w hSw; (try dsimp only at hSw); go_simp; try with_reducible rfl)
              try simp only [Act.put, List.setIfInBounds_toArray, List.set_cons_zero, List.set_cons_succ]
              refine wpAnyH_take (i := 31) (v := ?_) (by simp only [List.getElem?_toArray, List.getElem?_cons_succ, List.getElem?_cons_zero]; rfl) (by kernel_rfl) (by kernel_rfl) (by kernel_rfl) (fun _ _ _ h => h) (Or.inl ⟨by rfl, ?_⟩) (by assumption) ?_
              rotate_left 1
              · (intro w hSw; (try dsimp only at hSw); go_simp; try with_reducible rfl)
              try simp only [Act.put, List.setIfInBounds_toArray, List.set_cons_zero, List.set_cons_succ]
              refine wpAnyH_take (i := 32) (v := ?_) (by simp only [List.getElem?_toArray, List.getElem?_cons_succ, List.getElem?_cons_zero]; rfl) (by kernel_rfl) (by kernel_rfl) (by kernel_rfl) (fun _ _ _ h => h) (Or.inl ⟨by rfl, ?_⟩) (by assumption) ?_
              rotate_left 1
              · (intro w hSw; (try dsimp only at hSw); go_simp; try with_reducible rfl)
              try simp only [Act.put, List.setIfInBounds_toArray, List.set_cons_zero, List.set_cons_succ]
              refine wpAnyH_take (i := 33) (v := ?_) (by simp only [List.getElem?_toArray, List.getElem?_cons_succ, List.getElem?_cons_zero]; rfl) (by kernel_rfl) (by kernel_rfl) (by kernel_rfl) (fun _ _ _ h => h) (Or.inl ⟨by rfl, ?_⟩) (by assumption) ?_
              rotate_left 1
              · (intro w hSw; (try dsimp only at hSw); go_simp; try with_reducible rfl)
              try simp only [Act.put, List.setIfInBounds_toArray, List.set_cons_zero, List.set_cons_succ]
              refine wpAnyH_ready (rs := [34]) (by kernel_rfl) (by simp) ?_
              refine AllReadyH.cons (by simp only [List.getElem?_toArray, List.getElem?_cons_succ, List.getElem?_cons_zero]; rfl) (fun K hK => ?_) ?_
              rotate_left 1
              · exact AllReadyH.nil
              go_simp
              refine (same_any 0 0 0 0 0 0 0 0 0 0 A1 A2 A1' A2' n1 c1 n2 c2 n1 c1' n2 c2' _ _ _ _ _ _ _ _ p'.fs p'.fs p'.is p'.is _ (F1.out.below BDr.out) (F1'.out.below BDr.out) (RwAt.below I1.out BDr.out) (RwAt.below I1'.out BDr.out) D1.out D1.out D2.out D2.out D4.out D4.out).mono ?_; rintro e w7 ⟨rfl, hb⟩; rw [SQ.out]; have B7 := hide (BDr.out.trans (hb.mono BDr.out.size)); clear hb; go_wp2_with fail
              refine hK.out _ _ ?_ (fun hHeld2 => ?_)
              · ((try dsimp only) <;> (exact CC.out _ B7.out))
              clear hHeld
              have hHeld := hHeld2
              clear hHeld2 hK K
              try simp only [Act.put, List.setIfInBounds_toArray, List.set_cons_zero, List.set_cons_succ]
              refine wpAnyH_take (i := 35) (v := ?_) (by simp only [List.getElem?_toArray, List.getElem?_cons_succ, List.getElem?_cons_zero]; rfl) (by kernel_rfl) (by kernel_rfl) (by kernel_rfl) (fun _ _ _ h => h) (Or.inl ⟨by rfl, ?_⟩) (by assumption) ?_
              rotate_left 1
              · (intro w hSw; (try dsimp only at hSw); go_simp; try with_reducible rfl)
              try simp only [Act.put, List.setIfInBounds_toArray, List.set_cons_zero, List.set_cons_succ]
              refine wpAnyH_take (i := 36) (v := ?_) (by simp only [List.getElem?_toArray, List.getElem?_cons_succ, List.getElem?_cons_zero]; rfl) (by kernel_rfl) (by kernel_rfl) (by kernel_rfl) (fun _ _ _ h => h) (Or.inl ⟨by rfl, ?_⟩) (by assumption) ?_
              rotate_left 1
              · (intro w hSw; (try dsimp only at hSw); go_simp; try with_reducible rfl)
              try simp only [Act.put, List.setIfInBounds_toArray, List.set_cons_zero, List.set_cons_succ]
              refine wpAnyH_done (by kernel_rfl) ?_ _
              refine NoPanic.normal ?_
              go_wp2_with fail
              go_roundw
              case rel => exact ⟨i + 1, by omega, by go_num, Hb6.out.trans (B7.out.mono Hb6.out.size)⟩
              case measure => simp [intOf]; omega
            · have BB := hide (B5.out.trans (Hb6.out.mono B5.out.size))
              by_cases hL0 : L = 0
              · subst hL0
                go_wp2_with fail
                go_roundw
                case rel => exact ⟨j + 1, by omega, by go_num, BB.out⟩
                case measure => simp [intOf]; omega
              · obtain ⟨g, p, A1, c1, A2, c2, hA, hg0, -, hp, -, -, q0, -, -⟩ := (OA5.out.below Hb6.out).at (j := 0) (show 0 < L by omega)
                subst hA
                have hnw : p.nw = true := by
                  have h1 := NW.out (fun e => by have := HLP.out; rw [e] at this; exact hL0 this.symm)
                  match ps, hp with
                  | q :: qs, hp =>
                    simp only [List.getElem?_cons_zero, Option.some.injEq] at hp
                    subst hp
                    exact h1
                rw [hnw] at q0
                simp only [Nat.zero_mul] at q0
                have hLp : (0 : Int) < (L : Int) := by omega
                clear hp hnw
                go_wp2_with fail
                go_roundw
                case rel => exact ⟨j + 1, by omega, by go_num, BB.out⟩
                case measure => simp [intOf]; omega
      · have hj3 : j = 3 := by omega
        subst hj3
        go_wp2_with fail
        go_ret
        exact ⟨rfl, Hb.out⟩
  · rw [decide_eq_false hfew]
    go_wp2_with fail
    refine (awake13 w2).mono ?_
    rintro e w3 ⟨rfl, hb⟩
    have B3 := hide (B2.out.trans (hb.mono B2.out.size))
    clear hb
    go_wp2_with fail
    go_ret
    exact ⟨rfl, B3.out⟩
end Go.Proofs.Ytopjkpopdffkeaa
