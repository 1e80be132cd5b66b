/- The walk of marllaw11.ImapLast. -/
import Derived.Test.YtbmblofhogihdaaImFullW
import Derived.Test.YtbmblofhogihdaaImLastS
import Derived.Test.YtbmblofhogihdaaImSub
import Derived.Deep.LoopGhost
namespace Go.Proofs.Ytbmblofhogihdaa
open Go.RowKit

theorem LS.gives_at {n t vt b : Nat} {P : Nat → Bool} {L : List Ent} (h : LS n t vt b P L) {i : Nat} {x : Ent} (hx : L[i]? = some x) (hP : P i = false) (hb : b < 65535) (hv : vt < 65535) : x.gives = true := by
  refine gives_mk (by rw [h.bz i x hx, hP]) ?_
  by_cases hi : i = t
  · subst hi; rw [h.tv x hx]; exact hv
  · have := h.ov i x hx hi; omega
theorem LS.no_at {n t vt b : Nat} {P : Nat → Bool} {L : List Ent} (h : LS n t vt b P L) {i : Nat} {x : Ent} (hx : L[i]? = some x) (hP : P i = true) : x.gives = false := gives_busy (by rw [h.bz i x hx, hP])

theorem if_dec_t {p q r : Prop} [Decidable p] [Decidable q] [Decidable r] (h : p ↔ (q ∨ r)) : decide p = if q then true else decide r := by
  by_cases hq : q
  · rw [if_pos hq]; exact decide_eq_true (h.2 (.inl hq))
  · rw [if_neg hq]; exact decide_eq_decide.2 ⟨fun hp => (h.1 hp).resolve_left hq, fun hr => h.2 (.inr hr)⟩
theorem if_dec_f {p q r : Prop} [Decidable p] [Decidable q] [Decidable r] (h : p ↔ (¬ q ∧ r)) : decide p = if q then false else decide r := by
  by_cases hq : q
  · rw [if_pos hq]; exact decide_eq_false (fun hp => (h.1 hp).1 hq)
  · rw [if_neg hq]; exact decide_eq_decide.2 ⟨fun hp => (h.1 hp).2, fun hr => h.2 ⟨hq, hr⟩⟩

set_option maxRecDepth 100000 in
set_option maxHeartbeats 20000000 in
theorem last_any (x0 x1 x2 : Int) (w : World) :
    Calls Try.prog 4 #[.int .i64 x0, .int .i64 x1, .int .i64 x2] w fun e w' => e = .returned (.bool true) ∧ Below w.heap.size w w' := by
  obtain ⟨k, hk, hkl⟩ := modU x0 20 (by omega) (by omega)
  obtain ⟨r, hr, hrl⟩ := modU x1 ((k : Int) + 4 - 1) (by omega) (by omega)
  obtain ⟨q, hq, hql⟩ := modU x2 4 (by omega) (by omega)
  have hroom : ((k : Int) + 2 != (k : Int) + 4 - 2) = false := by simp; omega
  go_enter Try.func4, Try.ntmps4
  go_wp2_with fail
  refine (awake_any _).mono ?_
  rintro e w1 ⟨rfl, hb1⟩
  have Hb1 := hide hb1
  clear hb1
  go_wp2_with fail
  refine (im_new' w _ Hb1.out (k + 4) _ (by omega) (by omega) (by omega)).mono ?_
  rintro e w2 ⟨m, rfl, h2⟩
  have H2 := hide h2
  clear h2
  go_wp2_with fail
  have C := hide (im_force H2.out (r + 1) (by simp [fresh]; omega) (by omega) (65535 - q) (by omega))
  rw [show ((65535 - q : Nat) : Int) = 65535 - (q : Int) by omega, show ((r + 1 : Nat) : Int) + 1 = (r : Int) + 2 by omega] at C
  refine C.out.mono ?_
  clear C
  rintro e w3 ⟨rfl, h3⟩
  have H3 := hide h3
  clear h3 H2 Hb1
  go_wp2_with fail
  go_loopw [9] (fun i wr => ∃ (j : Nat) (L : List Ent), j ≤ q ∧ i = .int .i64 (j : Int) ∧ LS (k + 4) (r + 1) (65535 - q + j) (30 * j) (fun _ => false) L ∧ IM w wr m L []) (fun i _ => 4 - (intOf i).toNat)
  case atStart => exact ⟨0, _, by omega, rfl, LS.start _ _ _, H3.out⟩
  case round =>
    clear H3
    obtain ⟨j, L, hj, rfl, hS, h4⟩ := hrel
    have HS := hide hS
    have H4 := hide h4
    clear hS h4
    by_cases hjq : j < q
    · go_wp2_with fail
      go_loopg [10] (r + 1) (fun g s10 wr => ∃ (s : Nat) (L : List Ent), g + s = r + 2 ∧ 1 ≤ s ∧ s ≤ r + 1 ∧ LS (k + 4) (r + 1) (65535 - q + j) (30 * j) (fun i => decide (1 ≤ i ∧ i < s)) L ∧ IM w wr m L [])
      case atStart => exact ⟨1, L, by omega, by omega, by omega, HS.out.mono (Nat.le_refl _) (fun i _ => by simp; omega), H4.out⟩
      case round =>
        clear H4 HS
        obtain ⟨s, L, hgs, hs1, hs2, hS, h5⟩ := hrel
        have HS := hide hS
        have H5 := hide h5
        clear hS h5
        obtain ⟨e0, he⟩ : ∃ e0, L[s]? = some e0 := ⟨_, List.getElem?_eq_getElem (by rw [HS.out.len]; omega)⟩
        have He := hide he
        clear he
        by_cases hst : s < r + 1
        · go_wp2_with fail
          refine (im_alloc H5.out s e0 He.out hs1 (HS.out.gives_at He.out (by simp) (by omega) (by omega)) (fun i x hx h1 h2 => HS.out.no_at hx (by simp; omega)) _ rfl).mono ?_
          rintro e w6 ⟨rfl, h6⟩
          have H6 := hide h6
          clear h6
          go_wp2_with fail
          go_roundg (r + 1 - s)
          case rel => exact ⟨s + 1, _, by omega, by omega, by omega, HS.out.give He.out (fun i => if_dec_t (by omega)), H6.out⟩
          case measure => omega
        · obtain rfl : s = r + 1 := by omega
          have hev : ((e0.ver : Int) != 65535 - (q : Int) + (j : Int)) = false := by have := HS.out.tv e0 He.out; simp; omega
          have Hev := hide (HS.out.tv e0 He.out)
          go_wp2_with fail
          refine (im_alloc H5.out (r + 1) e0 He.out hs1 (HS.out.gives_at He.out (by simp) (by omega) (by omega)) (fun i x hx h1 h2 => HS.out.no_at hx (by simp; omega)) _ rfl).mono ?_
          rintro e w6 ⟨rfl, h6⟩
          rw [show ((r + 1 : Nat) : Int) + 1 = (r : Int) + 2 by omega]
          have H6 := hide h6
          have HS6 := hide (HS.out.give (P' := fun i => decide (1 ≤ i ∧ i < r + 2)) He.out (fun i => if_dec_t (by omega)))
          clear h6 HS H5
          go_wp2_with fail
          have hrl : r + 1 < L.length := (List.getElem?_eq_some_iff.1 He.out).1
          have C := hide (im_free H6.out (r + 1) ⟨e0.addr, e0.ver, true⟩ (List.getElem?_set_self hrl) (by omega) rfl (by have := Hev.out; show e0.ver < 65535; omega) _ rfl)
          rw [show ((r + 1 : Nat) : Int) + 1 = (r : Int) + 2 by omega] at C
          have HS7 := hide (HS6.out.free_t (P' := fun i => decide (1 ≤ i ∧ i < r + 1)) (List.getElem?_set_self hrl) (fun i => if_dec_f (by omega)))
          refine C.out.mono ?_
          clear C
          rintro e w7 ⟨rfl, h7⟩
          have H7 := hide h7
          clear h7 H6 HS6
          generalize ((L.set (r + 1) ⟨e0.addr, e0.ver, true⟩).set (r + 1) ⟨0, (⟨e0.addr, e0.ver, true⟩ : Ent).ver + 1, false⟩) = L7 at *
          clear hrl hev
          go_wp2_with fail
          have hl7 := HS7.out.len
          have HPK := hide (pickI_prefix Ent.busy r (L7.drop 1) 2 (by rw [List.length_drop, hl7]; omega) (fun i x hx => by
            rw [List.getElem?_drop, Nat.add_comm] at hx
            rw [HS7.out.bz (i + 1) x hx]; simp))
          refine (im_busy2 H7.out (by rw [hl7]; omega)).mono ?_
          rintro e w8 ⟨A8, n8, c8, rfl, hn8, hn200, G, h8, hG⟩
          rw [HPK.out, List.length_map, List.length_range] at hn8
          rw [HPK.out] at hG
          subst hn8
          have H8 := hide h8
          have HG := hide hG
          clear h8 hG hl7 H7 HPK
          go_wp2_with fail
          go_loopw [86] (fun i wr => ∃ (p : Nat) (L : List Ent), p ≤ n8 ∧ i = .int .i64 (p : Int) ∧ LS (k + 4) (n8 + 1) (65535 - q + j + 1) (30 * j + p) (fun i => decide (p + 1 ≤ i ∧ i < n8 + 1)) L ∧ IM w wr m L G) (fun i _ => n8 - (intOf i).toNat)
          case atStart => exact ⟨0, L7, by omega, rfl, HS7.out, H8.out⟩
          case round =>
            clear H8 HS7
            obtain ⟨p, L9, hp, rfl, hS, h9⟩ := hrel
            have HS := hide hS
            have H9 := hide h9
            clear hS h9
            by_cases hpn : p < n8
            · rcases HG.out with h0 | ⟨gb, cur, rfl, rfl, hcur⟩
              · omega
              · have cc : ∀ wz, IM w wz m L9 [(gb, 3, cur)] → wz.cell? ⟨gb, p, none⟩ = some (.int .i64 ((p : Int) + 2)) := by
                  intro wz hz
                  rw [(hz.blk (g := gb) (t := 3) (cs := cur) (by simp)).cell, hcur p (by simpa using hpn)]
                  simp
                have cp := cc _ H9.out
                obtain ⟨e1, he⟩ : ∃ e1, L9[p + 1]? = some e1 := ⟨_, List.getElem?_eq_getElem (by rw [HS.out.len]; omega)⟩
                have He1 := hide he
                have C := hide (im_free H9.out (p + 1) e1 he (by omega) (by rw [HS.out.bz _ _ he]; simp; omega) (by have := HS.out.ov _ _ he (by omega); omega) _ rfl)
                rw [show ((p + 1 : Nat) : Int) + 1 = (p : Int) + 2 by omega] at C
                clear he cc hcur
                go_wp2_with fail
                refine C.out.mono ?_
                clear C
                rintro e w10 ⟨rfl, h10⟩
                have H10 := hide h10
                clear h10 cp
                go_wp2_with fail
                go_roundw
                case rel => exact ⟨p + 1, _, by omega, by go_num, HS.out.free He1.out (by omega) (fun i => if_dec_f (by omega)), H10.out⟩
                case measure => simp [intOf]; omega
            · have hpe : p = n8 := by omega
              rw [hpe] at HS
              go_wp2_with fail
              go_roundw
              case rel => exact ⟨j + 1, L9, by omega, by go_num, HS.out.mono (by omega) (fun i _ => by simp), H9.out.sub (by simp)⟩
              case measure => simp [intOf]; omega
    · have hje : j = q := by omega
      rw [hje, show 65535 - q + q = 65535 by omega] at HS
      clear hje
      have hn2 : (L.drop 1).length = k + 3 := by rw [List.length_drop, HS.out.len]; omega
      have HR := hide (show (L.drop 1).countP Ent.gives = k + 2 by
        rw [countP_but (j := r) (by omega) (fun i x hx => ?_), hn2]
        · omega
        · rw [List.getElem?_drop, Nat.add_comm] at hx
          by_cases h : i = r
          · subst h
            rw [gives_last (by rw [HS.out.tv x hx]; omega)]; simp
          · rw [gives_mk (HS.out.bz _ x hx) (by have := HS.out.ov _ x hx (by omega); omega)]; simp [h])
      clear hn2
      go_wp2_with fail
      refine (im_room H4.out (by rw [HS.out.len]; omega) (k + 2) HR.out).mono ?_
      rintro e w5 ⟨rfl, h5⟩
      have H5 := hide h5
      clear h5 H4 HR
      go_wp2_with fail
      go_loopw [15] (fun i wr => ∃ (s p : Nat) (L : List Ent), s ≤ k + 2 ∧ i = .int .i64 (s : Int) ∧ (s < r ∧ p = s + 1 ∨ r ≤ s ∧ p = s + 2) ∧ LS (k + 4) (r + 1) 65535 (30 * q) (fun i => decide (1 ≤ i ∧ i < p ∧ i ≠ r + 1)) L ∧ IM w wr m L []) (fun i _ => k + 2 - (intOf i).toNat)
      case atStart =>
        by_cases h0 : 0 < r
        · exact ⟨0, 1, L, by omega, rfl, .inl ⟨h0, rfl⟩, HS.out.mono (Nat.le_refl _) (fun i _ => (decide_eq_false (by omega)).symm), H5.out⟩
        · exact ⟨0, 2, L, by omega, rfl, .inr ⟨by omega, rfl⟩, HS.out.mono (Nat.le_refl _) (fun i _ => (decide_eq_false (by omega)).symm), H5.out⟩
      case round =>
        clear H5 HS
        obtain ⟨s, p, L, hs, rfl, hp, hS, h6⟩ := hrel
        have HS := hide hS
        have H6 := hide h6
        clear hS h6
        have hno : ∀ (i : Nat) (x : Ent), L[i]? = some x → 1 ≤ i → i < p → x.gives = false := by
          intro i x hx h1 h2
          by_cases h : i = r + 1
          · subst h; exact gives_last (by rw [HS.out.tv x hx]; omega)
          · exact HS.out.no_at hx (decide_eq_true ⟨h1, h2, h⟩)
        have Hno := hide hno
        clear hno
        by_cases hlt : s < k + 2
        · obtain ⟨e0, he⟩ : ∃ e0, L[p]? = some e0 := ⟨_, List.getElem?_eq_getElem (by rw [HS.out.len]; omega)⟩
          have He := hide he
          have hgv : e0.gives = true := gives_mk (by rw [HS.out.bz _ _ he]; exact decide_eq_false (by omega)) (by have := HS.out.ov _ _ he (by omega); omega)
          have Hgv := hide hgv
          have hpr : ((p : Int) + 1 == (r : Int) + 2) = false := by simp; omega
          have Hp := hide hp
          clear he hgv hp
          go_wp2_with fail
          refine (im_alloc H6.out p e0 He.out (by have := Hp.out; omega) Hgv.out Hno.out _ rfl).mono ?_
          rintro e w7 ⟨rfl, h7⟩
          have H7 := hide h7
          clear h7
          go_wp2_with fail
          go_roundw
          case rel =>
            by_cases h1 : s + 1 < r
            · exact ⟨s + 1, s + 2, _, by omega, by go_num, .inl ⟨h1, rfl⟩, HS.out.give He.out (fun i => if_dec_t (by have := Hp.out; omega)), H7.out⟩
            · exact ⟨s + 1, s + 3, _, by omega, by go_num, .inr ⟨by omega, rfl⟩, HS.out.give He.out (fun i => if_dec_t (by have := Hp.out; omega)), H7.out⟩
          case measure => simp [intOf]; omega
        · have hpe : p = k + 4 := by omega
          rw [hpe] at Hno
          clear hpe hp
          go_wp2_with fail
          refine (im_alloc_none H6.out (fun i x hx h1 => Hno.out i x hx h1 (by have := (List.getElem?_eq_some_iff.1 hx).1; rw [HS.out.len] at this; exact this))).mono ?_
          rintro e w' ⟨rfl, rfl⟩
          go_wp2_with fail
          go_ret
          exact ⟨rfl, H6.out.bel⟩
end Go.Proofs.Ytbmblofhogihdaa
