/- The walk of marllaw11.ImapVersions. -/
import Derived.Test.YtbmblofhogihdaaImFullW
import Derived.Test.YtbmblofhogihdaaImVerS
import Derived.Test.YtbmblofhogihdaaImSub
namespace Go.Proofs.Ytbmblofhogihdaa
open Go.RowKit

/-- A script: structs of four numbers. -/
def OpsAt (w : World) (A : Option Addr) (q : Nat) : Prop :=
  ∀ j, j < q → ∃ (b off : Nat) (x0 x1 x2 x3 : Int), A = some ⟨b, off, none⟩ ∧ b < w.heap.size ∧ w.cell? ⟨b, off + j * 4, none⟩ = some (.int .i64 x0) ∧ w.cell? ⟨b, off + j * 4 + 1, none⟩ = some (.int .i64 x1) ∧
    w.cell? ⟨b, off + j * 4 + 2, none⟩ = some (.int .i64 x2) ∧ w.cell? ⟨b, off + j * 4 + 3, none⟩ = some (.int .i64 x3)
section
variable {w0 w : World} {m o g q : Nat} {L : List Ent} {te tg tq : TypeId} {co cg cq : Array Value}
theorem im2_g (h : IM w0 w m L [(g, tg, cg), (q, tq, cq)]) (hn : g ≠ q) (i : Nat) (v : Value) : IM w0 (w.setCell ⟨g, i, none⟩ v) m L [(g, tg, cg.setIfInBounds i v), (q, tq, cq)] := by
  have := h.set (g := g) (i := i) (t := tg) (cs := cg) v (by intro x hx e; simp at hx; rcases hx with rfl | rfl; rfl; exact absurd e hn.symm) (by simp)
  simpa [hn.symm] using this
theorem im2_q (h : IM w0 w m L [(g, tg, cg), (q, tq, cq)]) (hn : g ≠ q) (i : Nat) (v : Value) : IM w0 (w.setCell ⟨q, i, none⟩ v) m L [(g, tg, cg), (q, tq, cq.setIfInBounds i v)] := by
  have := h.set (g := q) (i := i) (t := tq) (cs := cq) v (by intro x hx e; simp at hx; rcases hx with rfl | rfl; exact absurd e hn; rfl) (by simp)
  simpa [hn] using this
theorem im2_b (h : IM w0 w m L [(g, tg, cg), (q, tq, cq)]) : Blk w g tg cg ∧ Blk w q tq cq := ⟨h.blk (g := g) (t := tg) (cs := cg) (by simp), h.blk (g := q) (t := tq) (cs := cq) (by simp)⟩
theorem im3_b (h : IM w0 w m L [(o, te, co), (g, tg, cg), (q, tq, cq)]) : Blk w o te co ∧ Blk w g tg cg ∧ Blk w q tq cq := ⟨h.blk (g := o) (t := te) (cs := co) (by simp), h.blk (g := g) (t := tg) (cs := cg) (by simp), h.blk (g := q) (t := tq) (cs := cq) (by simp)⟩
theorem im3_o (h : IM w0 w m L [(o, te, co), (g, tg, cg), (q, tq, cq)]) (h1 : o ≠ g) (h2 : o ≠ q) (i : Nat) (v : Value) : IM w0 (w.setCell ⟨o, i, none⟩ v) m L [(o, te, co.setIfInBounds i v), (g, tg, cg), (q, tq, cq)] := by
  have := h.set (g := o) (i := i) (t := te) (cs := co) v (by intro x hx e; simp at hx; rcases hx with rfl | rfl | rfl; rfl; exact absurd e h1.symm; exact absurd e h2.symm) (by simp)
  simpa [h1.symm, h2.symm] using this
end
theorem modU' (a q : Int) (hq : 0 < q) (hq2 : q < 1000000) : ∃ k : Nat, IntKind.i64.wrap ((IntKind.u64.wrap a).tmod q) = k ∧ RowKit.wrap64 ((IntKind.u64.wrap a).tmod q) = k ∧ (k : Int) < q := by
  obtain ⟨k, h1, h2⟩ := modU a q hq hq2
  refine ⟨k, ?_, h1, h2⟩
  have h0' : 0 ≤ IntKind.u64.wrap a := by simp [IntKind.wrap, IntKind.bits, IntKind.signed]; omega
  have e1 := Int.emod_nonneg (IntKind.u64.wrap a) (show q ≠ 0 by omega)
  have e2 := Int.emod_lt_of_pos (IntKind.u64.wrap a) hq
  rw [Int.tmod_eq_emod_of_nonneg h0'] at h1 ⊢
  rw [IntWalk.wrap64_in _ (by omega)] at h1
  rw [IntKind.wrap_i64]
  omega
theorem minus_set (n j : Nat) (hj : j < n) : (List.replicate j (-1 : Int) ++ List.replicate (n - j) 0).set j (-1) = List.replicate (j + 1) (-1) ++ List.replicate (n - (j + 1)) 0 := by
  rw [List.set_append_right _ _ (by simp), List.length_replicate, Nat.sub_self]
  obtain ⟨p, hp⟩ : ∃ p, n - j = p + 1 := ⟨n - j - 1, by omega⟩
  rw [hp, show n - (j + 1) = p by omega, List.replicate_succ' (n := j), List.append_assoc]
  rfl
theorem mk_bools' (n : Nat) (hn : n ≤ 1000000) (x : Int) (hx : x = (n : Int)) (w : World) : (Instr.makeSlice 38 (.int .i64 x) (.int .i64 x)).run Try.prog w = .ok (.slice (some ⟨w.heap.size, 0, none⟩) n n) (w.alloc (.cells (bools (List.replicate n false)) 4)) := by
  subst hx; exact mk_bools n hn w
theorem mk_wasA (n : Nat) (hn : n ≤ 1000000) (x : Int) (hx : x = (n : Int)) (w : World) : (Instr.makeSlice 22 (.int .i64 x) (.int .i64 x)).run Try.prog w = .ok (.slice (some ⟨w.heap.size, 0, none⟩) n n) (w.alloc (.cells (wasA (List.replicate n 0)) 3)) := by
  rw [mk_ints n hn x hx w]
  congr 2
  simp [intsA, intsV, wasA]

set_option maxRecDepth 100000 in
set_option maxHeartbeats 20000000 in
theorem vers_any (x : Int) (A : Option Addr) (q c : Nat) (w : World) (hf : OpsAt w A q) (hq : q ≤ 9223372036854775807) :
    Calls Try.prog 5 #[.int .i64 x, .slice A q c] w fun e w' => e = .returned (.bool true) ∧ Below w.heap.size w w' := by
  obtain ⟨k, hk, hkl⟩ := modU x 30 (by omega) (by omega)
  have HF := hide hf
  clear hf
  have k4 := fun w => mk_bools' (k + 5) (by omega) ((k : Int) + 4 + 1) (by omega) w
  have k5 := fun w => mk_wasA (k + 5) (by omega) ((k : Int) + 4 + 1) (by omega) w
  go_enter Try.func5, Try.ntmps5
  go_wp2_with fail
  refine (awake_any _).mono ?_
  rintro e w1 ⟨rfl, hb1⟩
  have Hb1 := hide hb1
  clear hb1
  go_wp2_with fail
  refine (im_new' w _ Hb1.out (k + 4) _ (by omega) (by omega) (by omega)).mono ?_
  rintro e w2 ⟨m, rfl, h2⟩
  have H2 := hide h2
  clear h2
  go_upto_region 7 with fail
  go_cut [7, 8] (fun v1 v2 wx => ∃ g h : Nat, g ≠ h ∧ v1 = .slice (some ⟨g, 0, none⟩) (k + 5) (k + 5) ∧ v2 = .slice (some ⟨h, 0, none⟩) (k + 5) (k + 5) ∧ IM w wx m (fresh (k + 4)) [(g, 4, bools (List.replicate (k + 5) false)), (h, 3, wasA (List.replicate (k + 5) 0))])
  case first =>
    go_region
    · go_wp2_with fail
      go_meet
      exact ⟨_, _, by omega, rfl, rfl, (((H2.out.new _ _).new _ _).sub (by intro x hx; simp at hx ⊢; rcases hx with rfl | rfl <;> simp)).drew⟩
    · go_wp2_with fail
      go_meet
      exact ⟨_, _, by omega, rfl, rfl, (((H2.out.new _ _).new _ _).sub (by intro x hx; simp at hx ⊢; rcases hx with rfl | rfl <;> simp)).drew⟩
  case rest =>
    obtain ⟨g, h, hgh, rfl, rfl, h3⟩ := hcut
    have H3 := hide h3
    clear h3 k4 k5
    go_wp2_with fail
    go_loopw [42] (fun i wr => ∃ j : Nat, j ≤ k + 5 ∧ i = .int .i64 (j : Int) ∧ IM w wr m (fresh (k + 4)) [(g, 4, bools (List.replicate (k + 5) false)), (h, 3, wasA (List.replicate j (-1) ++ List.replicate (k + 5 - j) 0))]) (fun i _ => k + 5 - (intOf i).toNat)
    case atStart => exact ⟨0, by omega, rfl, by simpa using H3.out⟩
    case round =>
      obtain ⟨j, hj, rfl, h4⟩ := hrel
      have H4 := hide h4
      clear h4 H3
      by_cases hlt : j < k + 5
      · have hl : j < (List.replicate j (-1 : Int) ++ List.replicate (k + 5 - j) 0).length := by simp; omega
        have cw : wr.cell? ⟨h, j, none⟩ = some (.int .i64 (List.replicate j (-1 : Int) ++ List.replicate (k + 5 - j) 0)[j]) := by
          rw [(im2_b H4.out).2.cell, wasA_get _ _ hl]
        have fw : wr.frozen? ⟨h, j, none⟩ = false := (im2_b H4.out).2.frozen j
        go_wp2_with fail
        have h5 := im2_q H4.out hgh j (.int .i64 (-1))
        rw [wasA_set, minus_set _ _ hlt] at h5
        have H5 := hide h5
        clear h5
        go_roundw
        case rel => exact ⟨j + 1, by omega, by go_num, H5.out⟩
        case measure => simp [intOf]; omega
      · have hjk : j = k + 5 := by omega
        rw [hjk, Nat.sub_self, List.replicate_zero, List.append_nil] at H4
        clear hjk
        go_wp2_with fail
        go_loopw [10] (fun i wr => ∃ (n : Nat) (L : List Ent) (GV : List Bool) (W : List Int), n ≤ 100 ∧ n ≤ q ∧ i = .int .i64 (n : Int) ∧ VInv (k + 4) n L GV W ∧ IM w wr m L [(g, 4, bools GV), (h, 3, wasA W)]) (fun i _ => 100 - (intOf i).toNat)
        case atStart => exact ⟨0, _, _, _, by omega, by omega, rfl, VInv.start (by omega), H4.out⟩
        case round =>
          clear H4 H2 Hb1
          obtain ⟨n, L, GV, W, hn1, hn2, rfl, hv, h6⟩ := hrel
          have HV := hide hv
          have H6 := hide h6
          clear hv h6
          by_cases hlt2 : n < q ∧ n < 100
          · obtain ⟨hq1, hq100⟩ := hlt2
            obtain ⟨ab, ao, x0, x1, x2, x3, hA, hab, s0, s1, s2, s3⟩ := HF.out n hq1
            have hbl := H6.out.bel
            rw [← hbl.cell hab] at s0 s1 s2 s3
            subst hA
            obtain ⟨r, hr, hrl⟩ := modU x1 ((k : Int) + 4) (by omega) (by omega)
            have hgl := (im2_b H6.out).1.lt
            have hhl := (im2_b H6.out).2.lt
            have habl : ab < wr.heap.size := Nat.lt_of_lt_of_le hab hbl.size
            clear hbl
            have H8 := hide (H6.out.new 40 #[.int .i64 x0, .int .i64 ((r : Int) + 1), .int .i64 x2, .int .i64 x3])
            by_cases k1 : x0 = 1
            · subst k1
              go_wp2_with fail
              rcases first_gives L with ⟨t, e0, he, ht1, hg, hno⟩ | hno
              · have Hno := hide hno
                have He := hide he
                have Hgv := hide hg
                have htl : t < k + 4 := by have := (List.getElem?_eq_some_iff.1 he).1; have := HV.out.hL; omega
                have hbf := (gives_yes hg).1
                have hvv := (gives_yes hg).2
                have hgt := HV.out.g t e0 he
                rw [hbf] at hgt
                have hWl : t + 1 < W.length := by rw [HV.out.hW]; omega
                have hlt3 : W[t + 1] < (e0.ver : Int) := (HV.out.u t e0 _ he (List.getElem?_eq_getElem hWl)).1 hbf
                clear hno he hg
                refine (im_alloc H8.out t e0 He.out ht1 Hgv.out Hno.out _ rfl).mono ?_
                rintro e w9 ⟨rfl, h9⟩
                obtain ⟨-, B1, B2⟩ := im3_b h9
                have cg : w9.cell? ⟨g, t + 1, none⟩ = some (.bool false) := by rw [B1.cell, bools_get, hgt]; rfl
                have fg := B1.frozen (t + 1)
                have cw : w9.cell? ⟨h, t + 1, none⟩ = some (.int .i64 W[t + 1]) := by rw [B2.cell, wasA_get _ _ hWl]
                have fw := B2.frozen (t + 1)
                have HB1 := hide B1
                have H9 := hide (h9.sub (G' := [(g, 4, bools GV), (h, 3, wasA W)]) (by intro x hx; simp at hx ⊢; rcases hx with rfl | rfl <;> simp))
                have HN := hide (HV.out.alloc He.out ht1)
                have HVV := hide (HV.out.v)
                have HVG := hide (HV.out.g)
                clear h9 B1 B2 hgt s0 s1 s2 s3 H8 hbf
                generalize W[t + 1] = wt at *
                generalize e0.ver = ev at *
                go_wp2_with fail
                go_loop [15] (fun v => ∃ j : Nat, 1 ≤ j ∧ j ≤ t ∧ v = .int .i64 ((j : Int) + 1)) (fun v => t + 1 - (intOf v).toNat)
                case atStart => exact ⟨1, by omega, ht1, rfl⟩
                case round =>
                  obtain ⟨p, hp1, hp2, rfl⟩ := hrel
                  by_cases hpt : p < t
                  · obtain ⟨y, hy⟩ : ∃ y, L[p]? = some y := ⟨_, List.getElem?_eq_getElem (by rw [HV.out.hL]; omega)⟩
                    have hyb : y.busy = true := by
                      have h1 := Hno.out p y hy hp1 hpt
                      have h2 := HVV.out p y hy
                      cases hb : y.busy with
                      | true => rfl
                      | false => rw [gives_mk hb (by omega)] at h1; cases h1
                    have cg2 : w9.cell? ⟨g, p + 1, none⟩ = some (.bool true) := by rw [HB1.out.cell, bools_get, HVG.out p y hy, hyb]; rfl
                    clear hy hyb
                    go_wp2_with fail
                    go_round
                    case rel => exact ⟨p + 1, by omega, by omega, by go_num⟩
                    case measure => simp [intOf]; omega
                  · go_wp2_with fail
                    have h10 := im2_q (im2_g H9.out hgh (t + 1) (.bool true)) hgh (t + 1) (.int .i64 (ev : Int))
                    rw [bools_set, wasA_set] at h10
                    have H10 := hide h10
                    clear h10
                    go_roundw
                    case rel => exact ⟨n + 1, _, _, _, by omega, by omega, by go_num, HN.out, H10.out⟩
                    case measure => simp [intOf]; omega
              · have Hno := hide hno
                clear hno
                refine (im_alloc_none H8.out Hno.out).mono ?_
                rintro e w' ⟨rfl, rfl⟩
                go_wp2_with fail
                refine (im_room H8.out (by rw [HV.out.hL]; omega) 0 (noroom Hno.out)).mono ?_
                rintro e w9 ⟨rfl, h9⟩
                have H9 := hide h9
                clear h9 s0 s1 s2 s3
                go_wp2_with fail
                go_roundw
                case rel => exact ⟨n + 1, L, GV, W, by omega, by omega, by go_num, HV.out.mono (by omega), H9.out.sub (by intro x hx; simp at hx ⊢; rcases hx with rfl | rfl <;> simp)⟩
                case measure => simp [intOf]; omega
            · by_cases k2 : x0 = 2
              · subst k2
                go_wp2_with fail
                obtain ⟨e0, he⟩ : ∃ e0, L[r]? = some e0 := ⟨_, List.getElem?_eq_getElem (by rw [HV.out.hL]; omega)⟩
                have hgt := HV.out.g r e0 he
                have He := hide he
                have HBF := hide (show r = 0 → e0.busy = false from fun h0 => HV.out.b0 e0 (by rw [← h0]; exact he))
                clear he
                obtain ⟨B0, B1, B2⟩ := im3_b H8.out
                have c1 := B0.cell 1
                have c3 := B0.cell 3
                have cg := B1.cell (r + 1)
                have fg := B1.frozen (r + 1)
                rw [bools_get, hgt] at cg
                change _ = some (Value.int .i64 ((r : Int) + 1)) at c1
                change _ = some (Value.int .i64 x3) at c3
                change _ = some (Value.bool e0.busy) at cg
                clear B0 B1 B2 hgt s0 s1 s2 s3 habl
                have Hgo := hide (show g ≠ wr.heap.size by omega)
                generalize wr.alloc (.cells #[.int .i64 2, .int .i64 ((r : Int) + 1), .int .i64 x2, .int .i64 x3] 40) = wa at *
                generalize wr.heap.size = o at *
                obtain ⟨s, hs0, hs, hsl⟩ := modU' x3 4096 (by omega) (by omega)
                have i0 : (0 : Int) ≤ (r : Int) + 1 := by omega
                have i1 : (r : Int) + 1 < (k : Int) + 5 := by omega
                have i2 : ((r : Int) + 1).toNat = r + 1 := by omega
                cases hb : e0.busy with
                | false =>
                  rw [hb] at cg
                  have Hb := hide hb
                  clear hb
                  have C : ∀ w', IM w w' m L [(o, 40, #[.int .i64 2, .int .i64 ((r : Int) + 1), .int .i64 x2, .int .i64 x3]), (g, 4, bools GV), (h, 3, wasA W)] →
                      ∃ code : Int, (code == 0) = false ∧ Calls Try.prog 14 #[.pointer (some ⟨m, 0, none⟩), .int .i64 ((r : Int) + 1), .int .i64 (s : Int)] w' fun e w'' => e = .returned (.int .i64 code) ∧ w' = w'' := by
                    intro w' hI
                    by_cases h0 : r = 0
                    · exact ⟨22, rfl, im_set_out hI _ _ (by rw [h0]; omega)⟩
                    · obtain ⟨p, rfl⟩ : ∃ p, r = p + 1 := ⟨r - 1, by omega⟩
                      exact ⟨2, rfl, im_set_none hI (p + 1) e0 He.out (by omega) Hb.out s (by omega)⟩
                  obtain ⟨code, hcode, C'⟩ := C wa.drew H8.out.drew
                  have HC := hide C'
                  clear C C'
                  go_region_held3 (fun w' => w'.cell? ⟨o, 1, none⟩ = some (.int .i64 ((r : Int) + 1)) ∧ w'.cell? ⟨o, 3, none⟩ = some (.int .i64 x3) ∧ w'.cell? ⟨g, r + 1, none⟩ = some (.bool false))
                    (first | go_keep | assumption)
                    (first | (go_at_call 14; refine (HC.out).mono ?_; rintro e w' ⟨rfl, rfl⟩))
                  all_goals
                    go_wp2_with fail
                    go_roundw
                    case rel => exact ⟨n + 1, L, GV, W, by omega, by omega, by go_num, HV.out.mono (by omega), H8.out.drew.sub (by intro x hx; simp at hx ⊢; rcases hx with rfl | rfl <;> simp)⟩
                    case measure => simp [intOf]; omega
                | true =>
                  rw [hb] at cg
                  have Hb := hide hb
                  have hr1 : 1 ≤ r := by
                    rcases Nat.eq_zero_or_pos r with h0 | h0
                    · have := HBF.out h0; rw [hb] at this; cases this
                    · exact h0
                  clear hb
                  go_region_held3 (fun w' => w'.cell? ⟨o, 1, none⟩ = some (.int .i64 ((r : Int) + 1)) ∧ w'.cell? ⟨o, 3, none⟩ = some (.int .i64 x3) ∧ w'.cell? ⟨g, r + 1, none⟩ = some (.bool true))
                    (first | go_keep | assumption)
                    (first | (go_at_call 14; refine (im_set H8.out.drew r e0 He.out hr1 Hb.out s (by omega)).mono ?_; rintro e w9 ⟨rfl, h9⟩; have H9 := hide h9; have hS : w9.cell? ⟨o, 1, none⟩ = some (.int .i64 ((r : Int) + 1)) ∧ w9.cell? ⟨o, 3, none⟩ = some (.int .i64 x3) ∧ w9.cell? ⟨g, r + 1, none⟩ = some (.bool true) := by { obtain ⟨B0, B1, -⟩ := im3_b h9; exact ⟨B0.cell 1, B0.cell 3, by rw [B1.cell, bools_get, HV.out.g r e0 He.out, Hb.out]; rfl⟩ }; clear h9))
                  all_goals
                    go_wp2_with fail
                    go_roundw
                    case rel => exact ⟨n + 1, _, GV, W, by omega, by omega, by go_num, HV.out.addr He.out Hb.out s, H9.out.sub (by intro x hx; simp at hx ⊢; rcases hx with rfl | rfl <;> simp)⟩
                    case measure => simp [intOf]; omega
              · by_cases k3 : x0 = 3
                · subst k3
                  go_wp2_with fail
                  obtain ⟨e0, he⟩ : ∃ e0, L[r]? = some e0 := ⟨_, List.getElem?_eq_getElem (by rw [HV.out.hL]; omega)⟩
                  have hgt := HV.out.g r e0 he
                  have He := hide he
                  have HBF := hide (show r = 0 → e0.busy = false from fun h0 => HV.out.b0 e0 (by rw [← h0]; exact he))
                  clear he
                  obtain ⟨B0, B1, B2⟩ := im3_b H8.out
                  have c1 := B0.cell 1
                  have c3 := B0.cell 3
                  have cg := B1.cell (r + 1)
                  have fg := B1.frozen (r + 1)
                  rw [bools_get, hgt] at cg
                  change _ = some (Value.int .i64 ((r : Int) + 1)) at c1
                  change _ = some (Value.int .i64 x3) at c3
                  change _ = some (Value.bool e0.busy) at cg
                  clear B0 B1 B2 hgt s0 s1 s2 s3 habl
                  have Hgo := hide (show g ≠ wr.heap.size by omega)
                  generalize wr.alloc (.cells #[.int .i64 3, .int .i64 ((r : Int) + 1), .int .i64 x2, .int .i64 x3] 40) = wa at *
                  generalize wr.heap.size = o at *
                  have i0 : (0 : Int) ≤ (r : Int) + 1 := by omega
                  have i1 : (r : Int) + 1 < (k : Int) + 5 := by omega
                  have i2 : ((r : Int) + 1).toNat = r + 1 := by omega
                  cases hb : e0.busy with
                  | false =>
                    rw [hb] at cg
                    have Hb := hide hb
                    clear hb
                    have C : ∀ w', IM w w' m L [(o, 40, #[.int .i64 3, .int .i64 ((r : Int) + 1), .int .i64 x2, .int .i64 x3]), (g, 4, bools GV), (h, 3, wasA W)] →
                        ∃ code : Int, (code == 0) = false ∧ Calls Try.prog 11 #[.pointer (some ⟨m, 0, none⟩), .int .i64 ((r : Int) + 1)] w' fun e w'' => e = .returned (.int .i64 code) ∧ w' = w'' := by
                      intro w' hI
                      by_cases h0 : r = 0
                      · exact ⟨22, rfl, im_free_out hI _ (by rw [h0]; omega)⟩
                      · obtain ⟨p, rfl⟩ : ∃ p, r = p + 1 := ⟨r - 1, by omega⟩
                        exact ⟨2, rfl, im_free_none hI (p + 1) e0 He.out (by omega) Hb.out⟩
                    obtain ⟨code, hcode, C'⟩ := C wa.drew H8.out.drew
                    have HC := hide C'
                    clear C C'
                    go_region_held3 (fun w' => w'.cell? ⟨o, 1, none⟩ = some (.int .i64 ((r : Int) + 1)) ∧ w'.cell? ⟨o, 3, none⟩ = some (.int .i64 x3) ∧ w'.cell? ⟨g, r + 1, none⟩ = some (.bool false))
                      (first | go_keep | assumption)
                      (first | (go_at_call 11; refine (HC.out).mono ?_; rintro e w' ⟨rfl, rfl⟩))
                    all_goals
                      go_wp2_with fail
                      go_roundw
                      case rel => exact ⟨n + 1, L, GV, W, by omega, by omega, by go_num, HV.out.mono (by omega), by have h10 := im2_g (H8.out.drew.sub (G' := [(g, 4, bools GV), (h, 3, wasA W)]) (by intro x hx; simp at hx ⊢; rcases hx with rfl | rfl <;> simp)) hgh (r + 1) (.bool false); rw [bools_set, HV.out.same He.out Hb.out] at h10; exact h10⟩
                      case measure => simp [intOf]; omega
                  | true =>
                    rw [hb] at cg
                    have Hb := hide hb
                    have hr1 : 1 ≤ r := by
                      rcases Nat.eq_zero_or_pos r with h0 | h0
                      · have := HBF.out h0; rw [hb] at this; cases this
                      · exact h0
                    clear hb
                    go_region_held3 (fun w' => w'.cell? ⟨o, 1, none⟩ = some (.int .i64 ((r : Int) + 1)) ∧ w'.cell? ⟨o, 3, none⟩ = some (.int .i64 x3) ∧ w'.cell? ⟨g, r + 1, none⟩ = some (.bool true))
                      (first | go_keep | assumption)
                      (first | (go_at_call 11; refine (im_free H8.out.drew r e0 He.out hr1 Hb.out (by have := HV.out.v r e0 He.out; omega) _ rfl).mono ?_; rintro e w9 ⟨rfl, h9⟩; have H9 := hide h9; have hS : w9.cell? ⟨o, 1, none⟩ = some (.int .i64 ((r : Int) + 1)) ∧ w9.cell? ⟨o, 3, none⟩ = some (.int .i64 x3) ∧ w9.cell? ⟨g, r + 1, none⟩ = some (.bool true) := by { obtain ⟨B0, B1, -⟩ := im3_b h9; exact ⟨B0.cell 1, B0.cell 3, by rw [B1.cell, bools_get, HV.out.g r e0 He.out, Hb.out]; rfl⟩ }; obtain ⟨d1, d2, d3⟩ := id hS; have fg9 := (im3_b h9).2.1.frozen (r + 1); clear h9))
                    all_goals
                      go_wp2_with fail
                      go_roundw
                      case rel => exact ⟨n + 1, _, _, W, by omega, by omega, by go_num, HV.out.free He.out, by have h10 := im2_g (H9.out.sub (G' := [(g, 4, bools GV), (h, 3, wasA W)]) (by intro x hx; simp at hx ⊢; rcases hx with rfl | rfl <;> simp)) hgh (r + 1) (.bool false); rw [bools_set] at h10; exact h10⟩
                      case measure => simp [intOf]; omega
                · go_wp2_with fail
                  go_roundw
                  case rel => exact ⟨n + 1, L, GV, W, by omega, by omega, by go_num, HV.out.mono (by omega), H8.out.sub (by intro x hx; simp at hx ⊢; rcases hx with rfl | rfl <;> simp)⟩
                  case measure => simp [intOf]; omega
          · by_cases hq1 : n < q
            all_goals
              go_wp2_with fail
              go_ret
              exact ⟨rfl, H6.out.bel⟩
end Go.Proofs.Ytbmblofhogihdaa
