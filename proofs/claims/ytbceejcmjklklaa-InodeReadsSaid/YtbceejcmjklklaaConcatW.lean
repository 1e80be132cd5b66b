/- The walks over slices.Grow and slices.Concat at []byte. -/
import Derived.Test.YtbceejcmjklklaaSlicesW
import Derived.Test.YtbceejcmjklklaaOwn
namespace Go.Proofs.Ytbceejcmjklklaa
open Go.RowKit

set_option maxHeartbeats 400000 in
theorem grow_nil (m : Nat) (hm : m ≤ 1099511627776) (w : World) :
    Calls Try.prog 37 #[.slice none 0 0, .int .i64 m] w fun e w' => ∃ A c, e = .returned (.slice A 0 c) ∧ OwnBy w' w.heap.size A 0 c [] ∧ Below w.heap.size w w' := by
  by_cases h0 : m = 0
  · subst h0
    go_enter Try.func37, Try.ntmps37
    go_wp2
    go_ret
    exact ⟨none, 0, rfl, World.ownsRow_nil _ _ _ _, Below.refl _ _⟩
  · have hpos : 0 < m := by omega
    obtain ⟨A1, c1, w1, hr, hown, hg, _⟩ := run_app_zeros (P := Try.prog) w (ty := 29) (kq := .i64) ety8 rfl rfl Try.underlying3 w.heap.size (.slice none 0 0) 0 [] (World.ownsRow_nil _ _ _ _) m (by omega) (Nat.le_refl _)
    have hcap : 0 ≤ c1 := Nat.zero_le _
    have hs0 : ∀ W, (Instr.slice 29 (.slice A1 m c1) none (some (.int .i64 0)) none).run Try.prog W = .ok (.slice A1 0 c1) W := fun W => run_cut_h ety8 A1 m c1 W 0 .i64 hcap
    have hown' := hide (own_head hown (Nat.zero_le _))
    have hb := hide ((Below.refl w.heap.size w).grown hg (Nat.le_refl _) (fun k hk => by simp [Value.ownBlock] at hk))
    clear hown hg hcap
    simp only [Nat.zero_add] at hr
    clear h0
    go_enter Try.func37, Try.ntmps37
    go_wp2_with (
      at_builtin
      refine Lib.wpList_append_run _ rfl (.tmp 20) (.tmp 21) _ _ rfl _ _ rfl rfl _ _ hr ?_)
    go_ret
    exact ⟨A1, c1, rfl, hown'.out, hb.out⟩

/-- One list among several: its value's parts, and its bytes. -/
structure Row where
  a : Option Addr
  n : Nat
  c : Nat
  l : List UInt8
def Row.v (r : Row) : Value := .slice r.a r.n r.c
def rowsN (rs : List Row) : Nat := (rs.map Row.n).sum
def rowsL (rs : List Row) : List UInt8 := rs.flatMap Row.l
theorem rowsN_snoc {rs : List Row} {k : Nat} (hk : k < rs.length) : rowsN (rs.take (k + 1)) = rowsN (rs.take k) + rs[k].n := by
  unfold rowsN; rw [List.take_succ_eq_append_getElem hk]; simp only [List.map_append, List.sum_append, List.map_cons, List.map_nil, List.sum_cons, List.sum_nil, Nat.add_zero]
theorem rowsL_snoc {rs : List Row} {k : Nat} (hk : k < rs.length) : rowsL (rs.take (k + 1)) = rowsL (rs.take k) ++ rs[k].l := by
  unfold rowsL; rw [List.take_succ_eq_append_getElem hk]; simp only [List.flatMap_append, List.flatMap_cons, List.flatMap_nil, List.append_nil]
theorem rowsN_le (rs : List Row) (k : Nat) : rowsN (rs.take k) ≤ rowsN rs := by
  have h : rowsN rs = rowsN (rs.take k) + rowsN (rs.drop k) := by
    conv => lhs; rw [← List.take_append_drop k rs]
    simp only [rowsN, List.map_append, List.sum_append]
  omega

set_option maxHeartbeats 1000000 in
theorem concat_any (rs : List Row) (A : Option Addr) (m c B : Nat) (w : World) (h : Sl w B A m (rs.map Row.v)) (hr : ∀ r ∈ rs, By w B r.a r.n r.l) (hB : B ≤ w.heap.size)
    (hN : rowsN rs ≤ 1099511627776) (hm : m ≤ 1099511627776) :
    Calls Try.prog 32 #[.slice A m c] w fun e w' => ∃ A' c', e = .returned (.slice A' (rowsN rs) c') ∧ OwnBy w' w.heap.size A' (rowsN rs) c' (rowsL rs) ∧ Below w.heap.size w w' := by
  have H := hide h
  have Hr := hide hr
  have Hlen := hide (show rs.length = m by have := h.len; simpa using this)
  have hB' := hB
  clear h hr
  go_enter Try.func32, Try.ntmps32
  go_wp2
  go_loop [3, 11] (fun s i => ∃ k : Nat, k ≤ m ∧ i = .int .i64 k ∧ s = .int .i64 (rowsN (rs.take k) : Nat)) (fun _ i => m - (intOf i).toNat)
  case atStart => exact ⟨0, by omega, rfl, rfl⟩
  case round =>
    obtain ⟨k, hk, rfl, rfl⟩ := hrel
    have hle := rowsN_le rs k
    by_cases hlt : k < m
    · obtain ⟨ad, u, rfl, _, hu, hcell⟩ := H.out.get hlt
      have hk2 : k < rs.length := by rw [Hlen.out]; exact hlt
      rw [List.getElem?_map, List.getElem?_eq_getElem hk2] at hu
      simp only [Option.map_some, Option.some.injEq] at hu
      subst hu
      have hsn := hide (rowsN_snoc hk2)
      have hle2 := rowsN_le rs (k + 1)
      rw [hsn.out] at hle2
      simp only [Row.v] at hcell
      generalize rs[k] = r at *
      clear hk2
      generalize rowsN (rs.take k) = s at *
      go_wp2
      go_round
      case rel => exact ⟨k + 1, by omega, by go_num, by rw [hsn.out]; go_num⟩
      case measure => simp [intOf]; omega
    · have Hk := hide (show rs.take k = rs from List.take_of_length_le (by rw [Hlen.out]; omega))
      rw [Hk.out]
      have hN0 := hN
      go_wp2_with fail
      refine (grow_nil _ hN _).mono ?_
      rintro e w1 ⟨A1, c1, rfl, hown1, hb1⟩
      have Hown1 := hide hown1
      clear hown1
      go_wp2
      go_loopw [6, 27] (fun v i wr => ∃ k : Nat, k ≤ m ∧ i = .int .i64 k ∧ ∃ A2 c2, v = .slice A2 (rowsN (rs.take k)) c2 ∧ OwnBy wr w.heap.size A2 (rowsN (rs.take k)) c2 (rowsL (rs.take k)) ∧ Below w.heap.size w wr) (fun _ i _ => m - (intOf i).toNat)
      case atStart => exact ⟨0, by omega, rfl, A1, c1, rfl, Hown1.out, hb1⟩
      case round =>
        clear hb1 Hown1 hle hlt hk Hk
        obtain ⟨k2, hk, rfl, A2, c2, rfl, hown2, hb2⟩ := hrel
        have Hown2 := hide hown2
        have Hb2 := hide hb2
        clear hown2 hb2
        have hle := rowsN_le rs k2
        by_cases hlt : k2 < m
        · obtain ⟨ad, u, rfl, _, hu, hcell⟩ := (H.out.below (Hb2.out.mono hB')).get hlt
          have hk2 : k2 < rs.length := by rw [Hlen.out]; exact hlt
          rw [List.getElem?_map, List.getElem?_eq_getElem hk2] at hu
          simp only [Option.map_some, Option.some.injEq] at hu
          subst hu
          have hby := hide ((Hr.out _ (List.getElem_mem hk2)).below (Hb2.out.mono hB'))
          have hsn := hide (rowsN_snoc hk2)
          have hsl := hide (rowsL_snoc hk2)
          have hle2 := rowsN_le rs (k2 + 1)
          rw [hsn.out] at hle2
          simp only [Row.v] at hcell
          generalize rs[k2] = r at *
          clear hk2
          generalize rowsN (rs.take k2) = s at *
          go_wp2_with (
            at_builtin
            refine wpList_app _ rfl (.tmp 31) (.tmp 32) _ rfl ety8 w.heap.size (.slice A2 s c2) s (u8s (rowsL (rs.take k2))) rfl Hown2.out B r.a r.n r.c (u8s r.l) rfl
              hby.out (u8s_one _) (by omega) Hb2.out.size ?_
            intro A3 c3 w3 hown3 hg3 _)
          go_roundw
          case rel =>
            refine ⟨k2 + 1, by omega, by go_num, A3, c3, by rw [hsn.out], ?_, Hb2.out.grown hg3 Hb2.out.size (fun g hg => (Hown2.out.lt g hg).1)⟩
            rw [hsn.out, hsl.out, OwnBy, u8s_append]
            exact hown3
          case measure => simp [intOf]; omega
        · have Hk := hide (show rs.take k2 = rs from List.take_of_length_le (by rw [Hlen.out]; omega))
          rw [Hk.out] at Hown2
          rw [Hk.out]
          go_wp2
          go_ret
          exact ⟨A2, c2, rfl, Hown2.out, Hb2.out⟩
end Go.Proofs.Ytbceejcmjklklaa
