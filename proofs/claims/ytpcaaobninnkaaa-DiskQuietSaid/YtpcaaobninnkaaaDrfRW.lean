/- The walk over the reference's Read. -/
import Derived.Test.YtpcaaobninnkaaaDrfW
namespace Go.Proofs.Ytpcaaobninnkaaa
open Go.RowKit

theorem own_cell {w : World} {base n c k : Nat} {e : TypeId} {A : Option Addr} {xs : List Value} (h : w.ownsRow base e k (.slice A n c) n xs) (i : Nat) (u : Value) (hu : xs[i]? = some u) : ∃ g, A = some ⟨g, 0, none⟩ ∧ w.cell? ⟨g, i, none⟩ = some u := by
  have hl := (List.getElem?_eq_some_iff.1 hu).1
  have h1 := h.1
  rcases h.2 with ⟨h0, rfl⟩ | ⟨g, cap, cur, h2, h3, h4, h5, h6, h7, h8⟩
  · rw [h1, Nat.zero_mul] at hl; omega
  · injection h2 with e1 e2 e3
    refine ⟨g, e1, ?_⟩
    rw [cell_of_row w g i cur _ (0, 0) h4]
    have : (cur.toList.take (n * k))[i]? = some u := by rw [h8]; exact hu
    rw [List.getElem?_take] at this
    split at this
    · simpa using this
    · cases this
theorem wsC_get (q : List (Nat × List UInt8)) (j : Nat) (x : Nat × List UInt8) (hx : q[j]? = some x) : (wsC q)[j * 2]? = some (.int .i64 (x.1 : Int)) ∧ (wsC q)[j * 2 + 1]? = some (.string (txt x.2)) := by
  have h := fun o v hv => fl_mid (f := fun x : Nat × List UInt8 => [Value.int .i64 (x.1 : Int), Value.string (txt x.2)]) (k := 2) q (fun _ _ => rfl) j x hx o v hv
  exact ⟨h 0 _ rfl, h 1 _ rfl⟩
section
variable {w w' : World} {base cs cq : Nat} {As Aq : Option Addr} {D : Dsk}
theorem RefM.atS (h : RefM w base As cs Aq cq D) (i : Nat) (b : List UInt8) (hb : D.sure[i]? = some b) : ∃ g, As = some ⟨g, 0, none⟩ ∧ w.cell? ⟨g, i, none⟩ = some (.string (txt b)) :=
  own_cell h.s i _ (by simp [strC, hb])
theorem RefM.atQ (h : RefM w base As cs Aq cq D) (j : Nat) (x : Nat × List UInt8) (hx : D.queue[j]? = some x) : ∃ g, Aq = some ⟨g, 0, none⟩ ∧ w.cell? ⟨g, j * 2, none⟩ = some (.int .i64 (x.1 : Int)) ∧ w.cell? ⟨g, j * 2 + 1, none⟩ = some (.string (txt x.2)) := by
  obtain ⟨g, e, c1⟩ := own_cell h.q (j * 2) _ (wsC_get D.queue j x hx).1
  obtain ⟨g', e', c2⟩ := own_cell h.q (j * 2 + 1) _ (wsC_get D.queue j x hx).2
  rw [e] at e'
  injection e' with e'
  injection e' with e'
  subst e'
  exact ⟨g, e, c1, c2⟩
end

set_option maxHeartbeats 400000 in
theorem rread_any (w : World) (base : Nat) (As : Option Addr) (cs : Nat) (Aq : Option Addr) (cq : Nat) (D : Dsk) (h : RefM w base As cs Aq cq D) (i : Nat) (hi : i < D.sure.length) :
    Calls Try.prog 31 #[.agg (refV As cs Aq cq D), .int .i64 (i : Int)] w fun e w' => e = .returned (.string (txt (D.read i))) ∧ Below w.heap.size w w' := by
  have hb := List.getElem?_eq_getElem hi
  have h1 := h.below ((Below.refl w.heap.size w).alloc (Nat.le_refl _) (.cells (refV As cs Aq cq D) 51))
  obtain ⟨gs, hAs, c1⟩ := h1.atS i _ hb
  have H1 := hide h1
  have hn := h.ok.n
  have hqn := h.ok.qn
  have hread : D.read i = readQ D.queue i D.sure[i] := by unfold Dsk.read; rw [List.getD_eq_getElem?_getD, hb]; rfl
  rw [hread]
  generalize D.sure[i] = b0 at *
  subst hAs
  clear hb hread h1 h
  unfold refV at *
  go_enter Try.func31, Try.ntmps31
  go_wp2_with fail
  go_loop [5, 15] (fun x y => ∃ j : Nat, j ≤ D.queue.length ∧ x = .string (txt (readQ (D.queue.take j) i b0)) ∧ y = .int .i64 (j : Int)) (fun _ y => D.queue.length - (intOf y).toNat)
  case atStart => exact ⟨0, Nat.zero_le _, rfl, rfl⟩
  case round =>
    obtain ⟨j, hj, rfl, rfl⟩ := hrel
    clear c1
    by_cases hlt : j < D.queue.length
    · obtain ⟨x, hx⟩ : ∃ x, D.queue[j]? = some x := ⟨_, List.getElem?_eq_getElem hlt⟩
      obtain ⟨gq, hAq, c2, c3⟩ := H1.out.atQ j x hx
      have hst := hide (readQ_step D.queue i j b0 x hx)
      subst hAq
      clear hx
      generalize hr : readQ (D.queue.take j) i b0 = rj at *
      replace hr := hide hr
      by_cases hxi : x.1 = i
      · go_wp2_with fail
        go_round
        case rel => exact ⟨j + 1, by omega, by rw [hst.out, if_pos hxi], by go_num⟩
        case measure => simp [intOf]; omega
      · go_wp2_with fail
        go_round
        case rel => exact ⟨j + 1, by omega, by rw [hst.out, if_neg hxi], by go_num⟩
        case measure => simp [intOf]; omega
    · have hjn : j = D.queue.length := by omega
      have hall : D.queue.take j = D.queue := List.take_of_length_le (by omega)
      rw [hall]
      clear hall hjn
      go_wp2_with fail
      go_ret
      exact ⟨rfl, (Below.refl _ _).alloc (Nat.le_refl _) _⟩
end Go.Proofs.Ytpcaaobninnkaaa
