/- The walks of sum.Parts and marllaw01.SumParts. -/
import Derived.Test.YtdohcpoaggclaaaAwake
import Derived.Test.YtdohcpoaggclaaaConcatW
import Derived.Test.YtdohcpoaggclaaaRd
namespace Go.Proofs.Ytdohcpoaggclaaa
open Go.RowKit

/-- The sum of lists, one behind the other. -/
def crcRows (rs : List Row) : Nat := rs.foldl (fun c r => crcMore c r.l) 0
theorem crcRows_snoc {rs : List Row} {k : Nat} (hk : k < rs.length) : crcRows (rs.take (k + 1)) = crcMore (crcRows (rs.take k)) rs[k].l := by
  unfold crcRows; rw [List.take_succ_eq_append_getElem hk, List.foldl_append]; rfl
theorem crcRows_eq (rs : List Row) : crcRows rs = crc (rowsL rs) := by
  have : ∀ (rs : List Row) (c : Nat), rs.foldl (fun c r => crcMore c r.l) c = crcMore c (rowsL rs) := by
    intro rs
    induction rs with
    | nil => intro c; exact (crcMore_nil c).symm
    | cons r rs ih =>
      intro c
      rw [List.foldl_cons, ih]
      show _ = crcMore c (r.l ++ rowsL rs)
      rw [crcMore_append]
  exact this rs 0

theorem rows_of_rd {P : Program} {w : World} {n : Nat} {t e b : TypeId} {v : Value} (ht : P.underlying t = some (.slice e)) (he : P.underlying e = some (.slice b)) (hb : P.underlying b = some (.int .u8)) (hce : P.cellsOf e = 1) (hcb : P.cellsOf b = 1)
    (h : Rd P w (n + 3) t [v]) :
    ∃ (A : Option Addr) (m c : Nat) (rs : List Row), v = .slice A m c ∧ m ≤ c ∧ c ≤ 9223372036854775807 ∧ Sl w w.heap.size A m (rs.map Row.v) ∧ ∀ r ∈ rs, By w w.heap.size r.a r.n r.l ∧ r.n ≤ r.c ∧ r.c ≤ 9223372036854775807 := by
  unfold Rd at h
  rw [ht] at h
  rcases h with h | ⟨a, len, cap, h, hl, hm, hi⟩
  · simp only [List.cons.injEq, and_true] at h
    exact ⟨none, 0, 0, [], h, Nat.le_refl _, by omega, Sl.nil_, fun r hr => by cases hr⟩
  · simp only [List.cons.injEq, and_true] at h
    rw [hce] at hi
    obtain ⟨rs, hrl, hq⟩ := list_of (Q := fun i (r : Row) => w.cell? (a.add i) = some r.v ∧ By w w.heap.size r.a r.n r.l ∧ r.n ≤ r.c ∧ r.c ≤ 9223372036854775807) len (fun i hil => by
      obtain ⟨cs', hcl, hat, hr⟩ := hi i hil
      match cs', hcl with
      | [c0], _ =>
        obtain ⟨A, n', c, l, rfl, h1, h2, h3⟩ := by_of_rd (n := n) he hb hcb hr
        have := hat 0 (by omega)
        exact ⟨⟨A, n', c, l⟩, by simpa [Row.v] using this, h3, h1, h2⟩)
    refine ⟨some a, len, cap, rs, h, hl, by simpa [maxLen] using hm, ⟨by simp [hrl], fun j u hu => ?_⟩, fun r hr => ?_⟩
    · rw [List.getElem?_map] at hu
      by_cases hj : j < rs.length
      · rw [List.getElem?_eq_getElem hj] at hu
        simp only [Option.map_some, Option.some.injEq] at hu
        have h1 := (hq j hj).1
        have := cell_lt h1
        rw [addr_block] at this
        exact ⟨a, rfl, this, by rw [h1, hu]⟩
      · rw [List.getElem?_eq_none (by omega)] at hu
        cases hu
    · obtain ⟨i, hi', rfl⟩ := List.getElem_of_mem hr
      exact (hq i hi').2

set_option maxHeartbeats 400000 in
theorem parts_any (rs : List Row) (A : Option Addr) (m c B : Nat) (w : World) (h : Sl w B A m (rs.map Row.v)) (hr : ∀ r ∈ rs, By w B r.a r.n r.l) (hN : rowsN rs ≤ 1099511627776) (hm : m ≤ 1099511627776) :
    Calls Try.prog 16 #[.slice A m c] w fun e w' => e = .returned (.int .u32 (crc (rowsL rs) : Nat)) ∧ w = w' := by
  have H := hide h
  have Hr := hide hr
  have Hlen := hide (show rs.length = m by have := h.len; simpa using this)
  clear h hr
  go_enter Try.func16, Try.ntmps16
  go_wp2
  go_loop [3, 8] (fun s i => ∃ k : Nat, k ≤ m ∧ i = .int .i64 k ∧ s = .int .u32 (crcRows (rs.take k) : Nat) ∧ crcRows (rs.take k) < 4294967296) (fun _ i => m - (intOf i).toNat)
  case atStart => exact ⟨0, by omega, rfl, rfl, by simp [crcRows]⟩
  case round =>
    obtain ⟨k, hk, rfl, rfl, hlt32⟩ := hrel
    by_cases hlt : k < m
    · obtain ⟨ad, u, rfl, _, hu, hcell⟩ := H.out.get hlt
      have hk2 : k < rs.length := by rw [Hlen.out]; exact hlt
      rw [List.getElem?_map, List.getElem?_eq_getElem hk2] at hu
      simp only [Option.map_some, Option.some.injEq] at hu
      subst hu
      have hsn := hide (crcRows_snoc hk2)
      have hby := hide (Hr.out _ (List.getElem_mem hk2))
      have hle2 := rowsN_le rs (k + 1)
      rw [rowsN_snoc hk2] at hle2
      simp only [Row.v] at hcell
      generalize rs[k] = r at *
      clear hk2
      generalize crcRows (rs.take k) = s at *
      go_wp2_with fail
      refine (more_any s hlt32 _ _ _ _ r.l _ hby.out (by omega)).mono ?_
      rintro e w' ⟨rfl, rfl⟩
      go_wp2_with fail
      go_round
      case rel => exact ⟨k + 1, by omega, by go_num, by rw [hsn.out], by rw [hsn.out]; exact crcMore_lt _ _ hlt32⟩
      case measure => simp [intOf]; omega
    · have Hk := hide (show rs.take k = rs from List.take_of_length_le (by rw [Hlen.out]; omega))
      rw [Hk.out]
      go_wp2
      go_ret
      exact ⟨ret_u32 (crcRows_eq rs), rfl⟩

set_option maxHeartbeats 400000 in
theorem sumParts_big (A : Option Addr) (n cap : Nat) (w : World) (hbig : 100 < n) :
    Calls Try.prog 7 #[.slice A n cap] w fun e w' => e = .returned (.bool true) ∧ Below w.heap.size w w' := by
  go_enter Try.func7, Try.ntmps7
  go_wp2_with fail
  refine (awake_any _).mono ?_
  rintro e w1 ⟨rfl, hb1⟩
  go_wp2_with fail
  refine (awake_any _).mono ?_
  rintro e w2 ⟨rfl, hb2⟩
  go_wp2_with fail
  go_ret
  exact ⟨rfl, hb1.trans (hb2.mono hb1.size)⟩

set_option maxHeartbeats 1000000 in
theorem sumParts_small (rs : List Row) (A : Option Addr) (m c : Nat) (w : World) (h : Sl w w.heap.size A m (rs.map Row.v)) (hr : ∀ r ∈ rs, By w w.heap.size r.a r.n r.l ∧ r.n ≤ r.c ∧ r.c ≤ 9223372036854775807) (hm : m ≤ 100) :
    Calls Try.prog 7 #[.slice A m c] w fun e w' => e = .returned (.bool true) ∧ Below w.heap.size w w' := by
  have H := hide h
  have Hr := hide hr
  have Hlen := hide (show rs.length = m by have := h.len; simpa using this)
  clear h hr
  go_enter Try.func7, Try.ntmps7
  go_wp2_with fail
  refine (awake_any _).mono ?_
  rintro e w1 ⟨rfl, hb1⟩
  go_wp2_with fail
  go_loopw [3, 16] (fun v i wr => ∃ k : Nat, k ≤ m ∧ i = .int .i64 k ∧ ∃ A2 c2, v = .slice A2 (rowsN (rs.take k)) c2 ∧ rowsN (rs.take k) ≤ 5000 ∧ OwnBy wr w.heap.size A2 (rowsN (rs.take k)) c2 (rowsL (rs.take k)) ∧ Below w.heap.size w wr) (fun _ i _ => m - (intOf i).toNat)
  case atStart => exact ⟨0, by omega, rfl, none, 0, rfl, by simp [rowsN], World.ownsRow_nil _ _ _ _, hb1⟩
  case round =>
    clear hb1
    obtain ⟨k2, hk, rfl, A2, c2, rfl, hle5, hown2, hb2⟩ := hrel
    have Hown2 := hide hown2
    have Hb2 := hide hb2
    clear hown2 hb2
    by_cases hlt : k2 < m
    · obtain ⟨ad, u, rfl, _, hu, hcell⟩ := (H.out.below Hb2.out).get hlt
      have hk2 : k2 < rs.length := by rw [Hlen.out]; exact hlt
      rw [List.getElem?_map, List.getElem?_eq_getElem hk2] at hu
      simp only [Option.map_some, Option.some.injEq] at hu
      subst hu
      obtain ⟨hby0, hrc1, hrc2⟩ := Hr.out _ (List.getElem_mem hk2)
      have hby := hide (hby0.below Hb2.out)
      have hsn := hide (rowsN_snoc hk2)
      have hsl := hide (rowsL_snoc hk2)
      clear hby0
      simp only [Row.v] at hcell
      generalize rs[k2] = r at *
      clear hk2
      generalize rowsN (rs.take k2) = s at *
      by_cases hfit : s + r.n ≤ 5000
      · have hgt : decide ((5000 : Int) - (s : Int) < (r.n : Int)) = false := by simp; omega
        have hgt2 : ¬ ((5000 : Int) - (s : Int) < (r.n : Int)) := by omega
        go_wp2_with (
          at_builtin
          refine wpList_app _ rfl (.tmp 26) (.tmp 27) _ rfl ety8 w.heap.size (.slice A2 s c2) s (u8s (rowsL (rs.take k2))) rfl Hown2.out w.heap.size r.a r.n r.c (u8s r.l) rfl
            hby.out (u8s_one _) (by omega) Hb2.out.size ?_
          intro A3 c3 w3 hown3 hg3 _
          have Hown3 := hide hown3
          have Hb3 := hide (Hb2.out.grown hg3 Hb2.out.size (fun g hg => (Hown2.out.lt g hg).1))
          clear hown3 hg3)
        go_roundw
        case rel =>
          refine ⟨k2 + 1, by omega, by go_num, A3, c3, by rw [hsn.out], by rw [hsn.out]; exact hfit, ?_, Hb3.out⟩
          rw [hsn.out, hsl.out, OwnBy, u8s_append]
          exact Hown3.out
        case measure => simp [intOf]; omega
      · have hgt : (5000 : Int) - (s : Int) < (r.n : Int) := by omega
        go_wp2
        go_ret
        exact ⟨rfl, Hb2.out⟩
    · have Hk := hide (show rs.take k2 = rs from List.take_of_length_le (by rw [Hlen.out]; omega))
      rw [Hk.out] at Hown2 hle5
      rw [Hk.out]
      go_wp2_with fail
      refine (parts_any rs _ _ _ w.heap.size _ (H.out.below Hb2.out) (fun r hr => (Hr.out r hr).1.below Hb2.out) (by omega) (by omega)).mono ?_
      rintro e w' ⟨rfl, rfl⟩
      go_wp2_with fail
      refine (rsum_any _ _ _ _ (rowsL rs) _ Hown2.out.by (by omega)).mono ?_
      rintro e w' ⟨rfl, rfl⟩
      go_wp2_with fail
      go_ret
      exact ⟨by simp, Hb2.out⟩
end Go.Proofs.Ytdohcpoaggclaaa
