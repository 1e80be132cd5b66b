/- The walk of marllaw02.DiskReads. -/
import Derived.Test.YtpcaaobninnkaaaDskAwake
import Derived.Test.YtpcaaobninnkaaaConv
import Derived.Deep.DrawnRows
namespace Go.Proofs.Ytpcaaobninnkaaa
open Go.RowKit
attribute [local go_sem ↓] Go.wp_at_zero Go.wp_at_succ

theorem modU (a q : Int) (hq : 0 < q) (hq2 : q < 1000000) : ∃ k : Nat, RowKit.wrap64 ((IntKind.u64.wrap a).tmod q) = k ∧ (k : Int) < q := by
  have h0' : 0 ≤ IntKind.u64.wrap a := by simp [IntKind.wrap, IntKind.bits, IntKind.signed]; omega
  generalize IntKind.u64.wrap a = u at *
  rw [Int.tmod_eq_emod_of_nonneg h0']
  have e1 := Int.emod_nonneg u (show q ≠ 0 by omega)
  have e2 := Int.emod_lt_of_pos u hq
  exact ⟨(u % q).toNat, by rw [IntWalk.wrap64_in _ (by omega)]; omega, by omega⟩
theorem ld_new' (w : World) (n : Nat) (x : Int) (hx : x = (n : Int)) (h1 : 1 ≤ n) (h2 : n ≤ 4096) :
    Calls Try.prog 11 #[.int .i64 x] w fun e w' => ∃ d, e = .returned (.tuple #[.pointer (some ⟨d, 0, none⟩), .int .i64 0]) ∧ LD w w' d (freshD n) := by subst hx; exact ld_new w n h1 h2
theorem mk_63 (w : World) : (Instr.makeSlice 22 (.int .i64 63) (.int .i64 63)).run Try.prog w = .ok (.slice (some ⟨w.heap.size, 0, none⟩) 63 63) (w.alloc (.cells (u8s (List.replicate 63 0)).toArray 5)) := by
  have := run_mks (P := Try.prog) (t := 22) (k := 1) (bytes := 1) (z := .int .u8 0) Try.underlying22 (by kernel_rfl) .i64 .i64 63 (by omega) (by omega) w
  rw [show madeCells (Value.int .u8 0).cells (63 * 1) = (u8s (List.replicate 63 0)).toArray by kernel_rfl] at this
  exact this
theorem by_blk {w : World} {g : Nat} {t : TypeId} {l : List UInt8} {n : Nat} (h : Blk w g t (u8s l).toArray) (hn : l.length = n) : By w w.heap.size (some ⟨g, 0, none⟩) n l :=
  ⟨by rw [u8s_length]; exact hn, fun j u hu => ⟨_, rfl, h.lt, by rw [Addr.add_mid, Nat.zero_add, h.cell]; simpa using hu⟩⟩
theorem fresh_read (n i : Nat) (hi : i < n) : (freshD n).read i = zero64 := by
  unfold Dsk.read freshD readQ
  simp [List.getD_eq_getElem?_getD, hi]
theorem wrote_read (D : Dsk) (i : Nat) (b : List UInt8) : (D.wrote i b).read i = b := by
  unfold Dsk.read Dsk.wrote Dsk.stepped readQ
  simp

theorem cvt' {f : Value → World → Result Value} (hf : ∀ (A : Option Addr) (n c : Nat) (w : World), (convert 22 9 (.slice A n c)).run Try.prog w = f (.slice A n c) w) {w : World} {B : Nat} {A : Option Addr} {n : Nat} (c : Nat) {l : List UInt8} (h : By w B A n l) : f (.slice A n c) w = .ok (.string (txt l)) w :=
  cv_txt hf Try.underlying22 Try.underlying5 Try.underlying9 c h
theorem u8inc (x : UInt8) : IntKind.u8.wrap ((x.toNat : Int) + 1) = (((x + 1 : UInt8).toNat : Nat) : Int) := by
  have h : (x + 1).toNat = (x.toNat + 1) % 256 := by rw [UInt8.toNat_add]; rfl
  rw [h]
  simp [IntKind.wrap, IntKind.bits, IntKind.signed]
theorem reads_out (n i : Int) (A : Option Addr) (m c : Nat) (l : List UInt8) (w : World) (h : By w w.heap.size A m l) (hm : m ≤ 9223372036854775807) (hi : ∀ k : Nat, wrap64 ((IntKind.u64.wrap n).tmod 4096) = k → ¬ (0 ≤ i ∧ i < (k : Int) + 1)) :
    Calls Try.prog 3 #[.int .i64 n, .int .i64 i, .slice A m c] w fun e w' => e = .returned (.bool true) ∧ Below w.heap.size w w' := by
  obtain ⟨k, hk, hlt⟩ := modU n 4096 (by decide) (by decide)
  have hi := hide (hi k hk)
  have H := hide h
  clear h
  go_enter Try.func3, Try.ntmps3
  go_wp2_with fail
  refine (awake_any _).mono ?_
  rintro e w1 ⟨rfl, hb1⟩
  have B1 := hide hb1
  clear hb1
  go_wp2_with fail
  refine (ld_new' _ (k + 1) _ (by omega) (by omega) (by omega)).mono ?_
  rintro e w2 ⟨d, rfl, h2⟩
  have H2 := hide h2
  clear h2
  have hlen : (freshD (k + 1)).sure.length = k + 1 := by simp [freshD]
  have hlen := hide hlen
  go_wp2_with fail
  refine (ld_size H2.out).mono ?_
  rintro e w3 ⟨rfl, rfl⟩
  rw [hlen.out]
  go_wp2_with fail
  refine (ld_read_no H2.out i (by rw [hlen.out]; have := hi.out; omega)).mono ?_
  rintro e w3 ⟨rfl, rfl⟩
  go_wp2_with fail
  refine (ld_bytes _ w.heap.size A m c l (H.out.below (B1.out.trans (H2.out.bel.mono B1.out.size))) (Nat.le_trans B1.out.size H2.out.sz) hm).mono ?_
  rintro e w4 ⟨g, rfl, hg, hb, hbl⟩
  have H4 := hide (H2.out.below hbl)
  clear hb hbl H2
  go_wp2_with fail
  refine (ld_write_no H4.out i _ 64 64 (.inl (by rw [hlen.out]; have := hi.out; omega)) (by decide)).mono ?_
  rintro e w5 ⟨rfl, rfl⟩
  by_cases h0 : i < 0
  · go_wp2_with fail
    refine (ld_steps H4.out).mono ?_
    rintro e w6 ⟨rfl, rfl⟩
    rw [show (freshD (k + 1)).steps = 0 from rfl]
    go_wp2_with fail
    go_ret
    exact ⟨rfl, B1.out.trans (H4.out.bel.mono B1.out.size)⟩
  · have h1 : (k : Int) + 1 ≤ i := by have := hi.out; omega
    go_wp2_with fail
    refine (ld_steps H4.out).mono ?_
    rintro e w6 ⟨rfl, rfl⟩
    rw [show (freshD (k + 1)).steps = 0 from rfl]
    go_wp2_with fail
    go_ret
    exact ⟨rfl, B1.out.trans (H4.out.bel.mono B1.out.size)⟩

set_option maxHeartbeats 1000000 in
theorem reads_in (n : Int) (i : Nat) (A : Option Addr) (m c : Nat) (l : List UInt8) (w : World) (h : By w w.heap.size A m l) (hm : m ≤ 9223372036854775807) (k : Nat) (hk : wrap64 ((IntKind.u64.wrap n).tmod 4096) = k) (hlt : k < 4096) (hi : i < k + 1) :
    Calls Try.prog 3 #[.int .i64 n, .int .i64 (i : Int), .slice A m c] w fun e w' => e = .returned (.bool true) ∧ Below w.heap.size w w' := by
  have H := hide h
  clear h
  obtain ⟨zl, hzl⟩ : ∃ zl, zl = zero64 := ⟨_, rfl⟩
  have z64 : Hid (zl.length = 64) := by subst hzl; show zero64.length = 64; unfold zero64; rw [List.length_replicate]
  obtain ⟨z63, hz63⟩ : ∃ z, z = (u8s (List.replicate 63 0)).toArray := ⟨_, rfl⟩
  have km := mk_64
  have km' := mk_63
  simp only [← hzl] at km
  simp only [← hz63] at km'
  replace hzl := hide hzl
  clear hz63
  go_enter Try.func3, Try.ntmps3
  go_wp2_with fail
  refine (awake_any _).mono ?_
  rintro e w1 ⟨rfl, hb1⟩
  have B1 := hide hb1
  clear hb1
  go_wp2_with fail
  refine (ld_new' _ (k + 1) _ (by omega) (by omega) (by omega)).mono ?_
  rintro e w2 ⟨d, rfl, h2⟩
  have H2 := hide h2
  clear h2
  have hlen : (freshD (k + 1)).sure.length = k + 1 := by simp [freshD]
  have hlen := hide hlen
  go_wp2_with fail
  refine (ld_size H2.out).mono ?_
  rintro e w3 ⟨rfl, rfl⟩
  rw [hlen.out]
  go_wp2_with fail
  refine (ld_read H2.out i (by rw [hlen.out]; omega)).mono ?_
  rintro e w3 ⟨gx, rfl, hgx, hbx, hblx⟩
  rw [fresh_read _ _ hi, ← hzl.out] at hbx
  have H3 := hide (H2.out.below hblx)
  have O3 := hide (H2.out.out hblx hgx hbx.lt)
  have X3 := hide hbx
  have hm3 : Hid (w.heap.size ≤ w3.heap.size) := hide (Nat.le_trans B1.out.size H3.out.sz)
  have B3 := hide (B1.out.trans (H3.out.bel.mono B1.out.size))
  clear hbx hblx H2
  go_wp2_with fail
  refine (ld_bytes _ w.heap.size A m c l (H.out.below B3.out) hm3.out hm).mono ?_
  rintro e w4 ⟨g, rfl, hg, hb, hbl⟩
  have hgd : g ≠ d := by have := H3.out.lt; omega
  have H4 := hide (H3.out.below hbl)
  have X4 := hide (X3.out.below hbl)
  have Y4 := hide hb
  have O4 := hide (O3.out.below hbl)
  clear hb hbl H3 X3
  go_wp2_with fail
  refine (ld_write H4.out i g _ (round64 l) _ (by rw [hlen.out]; omega) (by show (-1 : Int) ≠ 0; decide) (by show 0 < 1000000; decide) (by show 0 < 1000000; decide) (round64_len _) Y4.out u8s_at hgd).mono ?_
  rintro e w5 ⟨rfl, h5, gs5, hK5, hfr⟩
  have H5 := hide h5
  have X5 : Hid (Blk w5 gx 67 (u8s zl).toArray) := hide (X4.out.kp hK5 (hfr gx O4.out).1)
  have hl5 : Hid (((freshD (k + 1)).wrote i (round64 l)).sure.length = k + 1) := hlen
  clear h5 hK5 hfr hgd O3 O4 X4 Y4 H4
  obtain ⟨cv, hcv⟩ := cv_ex Try.prog 22 9
  have e1 := cvt' hcv (w := w5.drew) 64 (by_blk X5.out.drew z64.out)
  have e2 := cvt' hcv (w := (w5.alloc (.cells (u8s zl).toArray 5)).drew) 64 (by_blk (X5.out.alloc _).drew z64.out)
  have e3 := cvt' hcv (w := (w5.alloc (.cells (u8s zl).toArray 5)).drew) 64 (by_blk (Blk.new w5 _ _).drew z64.out)
  have e4 := cvt' hcv (w := ((w5.alloc (.cells (u8s zl).toArray 5)).alloc (.cells z63 5)).drew) 64 (by_blk ((X5.out.alloc _).alloc _).drew z64.out)
  have ht := txt_eq zl
  go_wp2_with fail
  refine wp_region_noPanic ?_
  refine wp_region_held_drew (S := (fun w' => cv (.slice (some ⟨gx, 0, none⟩) 64 64) w' = .ok (.string (txt zl)) w')) (by kernel_rfl) ?_ (fun hHeld => ?_)
  · ((try dsimp only) <;> (first | trivial | assumption | go_keep))
  refine wpAnyH_take (i := 0) (v := ?_) (by simp only [List.getElem?_toArray, List.getElem?_cons_succ, List.getElem?_cons_zero]; rfl) (by kernel_rfl) (by kernel_rfl) (by kernel_rfl) (fun _ _ _ h => h) (Or.inl ⟨by rfl, ?_⟩) (by assumption) ?_
  rotate_left 1
  · (intro w hSw; (try dsimp only at hSw); go_simp; try with_reducible rfl)
  try simp only [Act.put, List.setIfInBounds_toArray, List.set_cons_zero, List.set_cons_succ]
  refine wpAnyH_take (i := 1) (v := ?_) (by simp only [List.getElem?_toArray, List.getElem?_cons_succ, List.getElem?_cons_zero]; rfl) (by kernel_rfl) (by kernel_rfl) (by kernel_rfl) (fun _ _ _ h => h) (Or.inl ⟨by rfl, ?_⟩) (by assumption) ?_
  rotate_left 1
  · (intro w hSw; (try dsimp only at hSw); go_simp; try with_reducible rfl)
  try simp only [Act.put, List.setIfInBounds_toArray, List.set_cons_zero, List.set_cons_succ]
  refine wpAnyH_take (i := 2) (v := ?_) (by simp only [List.getElem?_toArray, List.getElem?_cons_succ, List.getElem?_cons_zero]; rfl) (by kernel_rfl) (by kernel_rfl) (by kernel_rfl) (fun _ _ _ h => h) (Or.inl ⟨by rfl, ?_⟩) (by assumption) ?_
  rotate_left 1
  · (intro w hSw; (try dsimp only at hSw); go_simp; try with_reducible rfl)
  try simp only [Act.put, List.setIfInBounds_toArray, List.set_cons_zero, List.set_cons_succ]
  refine wpAnyH_take (i := 3) (v := ?_) (by simp only [List.getElem?_toArray, List.getElem?_cons_succ, List.getElem?_cons_zero]; rfl) (by kernel_rfl) (by kernel_rfl) (by kernel_rfl) (fun _ _ _ h => h) (Or.inl ⟨by rfl, ?_⟩) (by assumption) ?_
  rotate_left 1
  · (intro w hSw; (try dsimp only at hSw); go_simp; try with_reducible rfl)
  try simp only [Act.put, List.setIfInBounds_toArray, List.set_cons_zero, List.set_cons_succ]
  refine wpAnyH_take (i := 4) (v := ?_) (by simp only [List.getElem?_toArray, List.getElem?_cons_succ, List.getElem?_cons_zero]; rfl) (by kernel_rfl) (by kernel_rfl) (by kernel_rfl) (fun _ _ _ h => h) (Or.inl ⟨by rfl, ?_⟩) (by assumption) ?_
  rotate_left 1
  · (intro w hSw; (try dsimp only at hSw); go_simp; try with_reducible rfl)
  try simp only [Act.put, List.setIfInBounds_toArray, List.set_cons_zero, List.set_cons_succ]
  refine wpAnyH_take (i := 5) (v := ?_) (by simp only [List.getElem?_toArray, List.getElem?_cons_succ, List.getElem?_cons_zero]; rfl) (by kernel_rfl) (by kernel_rfl) (by kernel_rfl) (fun _ _ _ h => h) (Or.inl ⟨by rfl, ?_⟩) (by assumption) ?_
  rotate_left 1
  · (intro w hSw; (try dsimp only at hSw); go_simp; try with_reducible rfl)
  try simp only [Act.put, List.setIfInBounds_toArray, List.set_cons_zero, List.set_cons_succ]
  refine wpAnyH_take (i := 6) (v := ?_) (by simp only [List.getElem?_toArray, List.getElem?_cons_succ, List.getElem?_cons_zero]; rfl) (by kernel_rfl) (by kernel_rfl) (by kernel_rfl) (fun _ _ _ h => h) (Or.inl ⟨by rfl, ?_⟩) (by assumption) ?_
  rotate_left 1
  · (intro w hSw; (try dsimp only at hSw); go_simp; try with_reducible rfl)
  try simp only [Act.put, List.setIfInBounds_toArray, List.set_cons_zero, List.set_cons_succ]
  refine wpAnyH_take (i := 7) (v := ?_) (by simp only [List.getElem?_toArray, List.getElem?_cons_succ, List.getElem?_cons_zero]; rfl) (by kernel_rfl) (by kernel_rfl) (by kernel_rfl) (fun _ _ _ h => h) (Or.inl ⟨by rfl, ?_⟩) (by assumption) ?_
  rotate_left 1
  · (intro w hSw; (try dsimp only at hSw); go_simp; try with_reducible rfl)
  try simp only [Act.put, List.setIfInBounds_toArray, List.set_cons_zero, List.set_cons_succ]
  refine wpAnyH_take (i := 8) (v := ?_) (by simp only [List.getElem?_toArray, List.getElem?_cons_succ, List.getElem?_cons_zero]; rfl) (by kernel_rfl) (by kernel_rfl) (by kernel_rfl) (fun _ _ _ h => h) (Or.inl ⟨by rfl, ?_⟩) (by assumption) ?_
  rotate_left 1
  · (intro w hSw; (try dsimp only at hSw); go_simp; try with_reducible rfl)
  try simp only [Act.put, List.setIfInBounds_toArray, List.set_cons_zero, List.set_cons_succ]
  refine wpAnyH_ready (rs := [9]) (by kernel_rfl) (by simp) ?_
  refine AllReadyH.cons (by simp only [List.getElem?_toArray, List.getElem?_cons_succ, List.getElem?_cons_zero]; rfl) (fun K hK => ?_) ?_
  rotate_left 1
  · exact AllReadyH.nil
  go_simp
  refine hK.out _ _ ?_ (fun hHeld2 => ?_)
  · ((try dsimp only) <;> (first | trivial | assumption | go_keep))
  clear hHeld
  have hHeld := hHeld2
  clear hHeld2 hK K
  try simp only [Act.put, List.setIfInBounds_toArray, List.set_cons_zero, List.set_cons_succ]
  refine wpAnyH_ready (rs := [10]) (by kernel_rfl) (by simp) ?_
  refine AllReadyH.cons (by simp only [List.getElem?_toArray, List.getElem?_cons_succ, List.getElem?_cons_zero]; rfl) (fun K hK => ?_) ?_
  rotate_left 1
  · exact AllReadyH.nil
  go_simp
  refine hK.out _ _ ?_ (fun hHeld2 => ?_)
  · ((try dsimp only) <;> (first | trivial | assumption | go_keep))
  clear hHeld
  have hHeld := hHeld2
  clear hHeld2 hK K
  try simp only [Act.put, List.setIfInBounds_toArray, List.set_cons_zero, List.set_cons_succ]
  refine wpAnyH_take (i := 11) (v := ?_) (by simp only [List.getElem?_toArray, List.getElem?_cons_succ, List.getElem?_cons_zero]; rfl) (by kernel_rfl) (by kernel_rfl) (by kernel_rfl) (fun _ _ _ h => h) (Or.inl ⟨by rfl, ?_⟩) (by assumption) ?_
  rotate_left 1
  · (intro w hSw; (try dsimp only at hSw); go_simp; try with_reducible rfl)
  try simp only [Act.put, List.setIfInBounds_toArray, List.set_cons_zero, List.set_cons_succ]
  refine wpAnyH_take (i := 12) (v := ?_) (by simp only [List.getElem?_toArray, List.getElem?_cons_succ, List.getElem?_cons_zero]; rfl) (by kernel_rfl) (by kernel_rfl) (by kernel_rfl) (fun _ _ _ h => h) (Or.inl ⟨by rfl, ?_⟩) (by assumption) ?_
  rotate_left 1
  · (intro w hSw; (try dsimp only at hSw); go_simp; try with_reducible rfl)
  try simp only [Act.put, List.setIfInBounds_toArray, List.set_cons_zero, List.set_cons_succ]
  refine wpAnyH_take (i := 13) (v := ?_) (by simp only [List.getElem?_toArray, List.getElem?_cons_succ, List.getElem?_cons_zero]; rfl) (by kernel_rfl) (by kernel_rfl) (by kernel_rfl) (fun _ _ _ h => h) (Or.inl ⟨by rfl, ?_⟩) (by assumption) ?_
  rotate_left 1
  · (intro w hSw; (try dsimp only at hSw); go_simp; try with_reducible rfl)
  try simp only [Act.put, List.setIfInBounds_toArray, List.set_cons_zero, List.set_cons_succ]
  refine wpAnyH_take (i := 14) (v := ?_) (by simp only [List.getElem?_toArray, List.getElem?_cons_succ, List.getElem?_cons_zero]; rfl) (by kernel_rfl) (by kernel_rfl) (by kernel_rfl) (fun _ _ _ h => h) (Or.inl ⟨by rfl, ?_⟩) (by assumption) ?_
  rotate_left 1
  · (intro w hSw; (try dsimp only at hSw); go_simp; try with_reducible rfl)
  try simp only [Act.put, List.setIfInBounds_toArray, List.set_cons_zero, List.set_cons_succ]
  refine wpAnyH_take (i := 15) (v := ?_) (by simp only [List.getElem?_toArray, List.getElem?_cons_succ, List.getElem?_cons_zero]; rfl) (by kernel_rfl) (by kernel_rfl) (by kernel_rfl) (fun _ _ _ h => h) (Or.inl ⟨by rfl, ?_⟩) (by assumption) ?_
  rotate_left 1
  · (intro w hSw; (try dsimp only at hSw); go_simp; try with_reducible rfl)
  try simp only [Act.put, List.setIfInBounds_toArray, List.set_cons_zero, List.set_cons_succ]
  refine wpAnyH_ready (rs := [16]) (by kernel_rfl) (by simp) ?_
  refine AllReadyH.cons (by simp only [List.getElem?_toArray, List.getElem?_cons_succ, List.getElem?_cons_zero]; rfl) (fun K hK => ?_) ?_
  rotate_left 1
  · exact AllReadyH.nil
  go_simp
  refine hK.out _ _ ?_ (fun hHeld2 => ?_)
  · ((try dsimp only) <;> (first | trivial | assumption | go_keep))
  clear hHeld
  have hHeld := hHeld2
  clear hHeld2 hK K
  try simp only [Act.put, List.setIfInBounds_toArray, List.set_cons_zero, List.set_cons_succ]
  refine wpAnyH_ready (rs := [17]) (by kernel_rfl) (by simp) ?_
  refine AllReadyH.cons (by simp only [List.getElem?_toArray, List.getElem?_cons_succ, List.getElem?_cons_zero]; rfl) (fun K hK => ?_) ?_
  rotate_left 1
  · exact AllReadyH.nil
  go_simp
  refine (ld_write_no ((H5.out.alloc _).alloc _).drew (i : Int) _ 63 63 (.inr (by decide)) (by decide)).mono ?_; rintro e w6 ⟨rfl, rfl⟩; go_wp2_with fail
  refine hK.out _ _ ?_ (fun hHeld2 => ?_)
  · ((try dsimp only) <;> (first | trivial | assumption | go_keep))
  clear hHeld
  have hHeld := hHeld2
  clear hHeld2 hK K
  try simp only [Act.put, List.setIfInBounds_toArray, List.set_cons_zero, List.set_cons_succ]
  refine wpAnyH_take (i := 18) (v := ?_) (by simp only [List.getElem?_toArray, List.getElem?_cons_succ, List.getElem?_cons_zero]; rfl) (by kernel_rfl) (by kernel_rfl) (by kernel_rfl) (fun _ _ _ h => h) (Or.inl ⟨by rfl, ?_⟩) (by assumption) ?_
  rotate_left 1
  · (intro w hSw; (try dsimp only at hSw); go_simp; try with_reducible rfl)
  try simp only [Act.put, List.setIfInBounds_toArray, List.set_cons_zero, List.set_cons_succ]
  refine wpAnyH_take (i := 19) (v := ?_) (by simp only [List.getElem?_toArray, List.getElem?_cons_succ, List.getElem?_cons_zero]; rfl) (by kernel_rfl) (by kernel_rfl) (by kernel_rfl) (fun _ _ _ h => h) (Or.inl ⟨by rfl, ?_⟩) (by assumption) ?_
  rotate_left 1
  · (intro w hSw; (try dsimp only at hSw); go_simp; try with_reducible rfl)
  try simp only [Act.put, List.setIfInBounds_toArray, List.set_cons_zero, List.set_cons_succ]
  refine wpAnyH_done (by kernel_rfl) ?_ _
  refine NoPanic.normal ?_
  have H6 := hide (((H5.out.alloc (.cells (u8s zl).toArray 5)).alloc (.cells z63 5)).drew)
  clear e1 e2 e3 e4 X5 H5 hHeld
  generalize ((w5.alloc (.cells (u8s zl).toArray 5)).alloc (.cells z63 5)).drew = w6 at *
  go_wp2_with fail
  refine (ld_read H6.out i (by rw [hl5.out]; omega)).mono ?_
  rintro e w7 ⟨gy, rfl, hgy, hby, hbly⟩
  rw [wrote_read] at hby
  have Y7 := hide hby
  have B7 := hide hbly
  have hgy6 := hide hgy
  clear hby hbly hgy
  go_wp2_with fail
  go_loopw [101] (fun x wr => ∃ (j : Nat) (L : List UInt8), j ≤ 64 ∧ x = .int .i64 (j : Int) ∧ L.length = 64 ∧ Blk wr gy 67 (u8s L).toArray ∧ Below w6.heap.size w6 wr) (fun x _ => 64 - (intOf x).toNat)
  case atStart => exact ⟨0, _, Nat.zero_le _, rfl, round64_len _, Y7.out, B7.out⟩
  case round =>
    obtain ⟨j, L, hj, rfl, hL, h1, h2⟩ := hrel
    have H1 := hide h1
    have H2 := hide h2
    by_cases hlt : j < 64
    · obtain ⟨xb, hxb⟩ : ∃ xb, L[j]? = some xb := ⟨_, List.getElem?_eq_getElem (by omega)⟩
      have hc : wr.cell? ⟨gy, j, none⟩ = some (.int .u8 (xb.toNat : Int)) := by
        rw [h1.cell]; simp [u8s, hxb]
      have hf : wr.frozen? ⟨gy, j, none⟩ = false := h1.frozen j
      have hst := hide (h1.set j (.int .u8 ((xb + 1 : UInt8).toNat : Int)))
      have hw := u8inc xb
      have hLs := hide (u8s_set L j (xb + 1))
      have hb1 := hide (h2.setCell (p := ⟨gy, j, none⟩) hgy6.out (.int .u8 ((xb + 1 : UInt8).toNat : Int)))
      have hLl := hide hL
      clear h1 h2 hL hxb
      go_wp2_with fail
      go_roundw
      case rel =>
        refine ⟨j + 1, L.set j (xb + 1), by omega, by go_num, by rw [List.length_set]; exact hLl.out, ?_, hb1.out⟩
        rw [← hLs.out]
        exact hst.out
      case measure => simp [intOf]; omega
    · clear h1
      have H8 := hide (H6.out.below h2)
      clear h2
      go_wp2_with fail
      refine (ld_read H8.out i (by rw [hl5.out]; omega)).mono ?_
      rintro e w8 ⟨gz, rfl, hgz, hbz, hblz⟩
      rw [wrote_read] at hbz
      have H9 := hide (H8.out.below hblz)
      have Z9 := hide hbz
      have B9 := hide (B1.out.trans (H9.out.bel.mono B1.out.size))
      clear hbz hblz hgz
      obtain ⟨rl, hrl⟩ : ∃ rl, rl = round64 l := ⟨_, rfl⟩
      rw [← hrl] at Z9
      have r64 : Hid (rl.length = 64) := hide (by rw [hrl]; exact round64_len l)
      replace hrl := hide hrl
      have e1 := cvt' hcv (w := w8.drew) 64 (by_blk Z9.out.drew r64.out)
      have ht := txt_eq rl
      go_wp2_with fail
      refine wp_region_noPanic ?_
      refine wp_region_held_drew (S := (fun w' => cv (.slice (some ⟨gz, 0, none⟩) 64 64) w' = .ok (.string (txt rl)) w')) (by kernel_rfl) ?_ (fun hHeld => ?_)
      · ((try dsimp only) <;> (first | trivial | assumption | go_keep))
      refine wpAnyH_take (i := 0) (v := ?_) (by simp only [List.getElem?_toArray, List.getElem?_cons_succ, List.getElem?_cons_zero]; rfl) (by kernel_rfl) (by kernel_rfl) (by kernel_rfl) (fun _ _ _ h => h) (Or.inl ⟨by rfl, ?_⟩) (by assumption) ?_
      rotate_left 1
      · (intro w hSw; (try dsimp only at hSw); go_simp; try with_reducible rfl)
      try simp only [Act.put, List.setIfInBounds_toArray, List.set_cons_zero, List.set_cons_succ]
      refine wpAnyH_take (i := 1) (v := ?_) (by simp only [List.getElem?_toArray, List.getElem?_cons_succ, List.getElem?_cons_zero]; rfl) (by kernel_rfl) (by kernel_rfl) (by kernel_rfl) (fun _ _ _ h => h) (Or.inl ⟨by rfl, ?_⟩) (by assumption) ?_
      rotate_left 1
      · (intro w hSw; (try dsimp only at hSw); go_simp; try with_reducible rfl)
      try simp only [Act.put, List.setIfInBounds_toArray, List.set_cons_zero, List.set_cons_succ]
      refine wpAnyH_take (i := 2) (v := ?_) (by simp only [List.getElem?_toArray, List.getElem?_cons_succ, List.getElem?_cons_zero]; rfl) (by kernel_rfl) (by kernel_rfl) (by kernel_rfl) (fun _ _ _ h => h) (Or.inl ⟨by rfl, ?_⟩) (by assumption) ?_
      rotate_left 1
      · (intro w hSw; (try dsimp only at hSw); go_simp; try with_reducible rfl)
      try simp only [Act.put, List.setIfInBounds_toArray, List.set_cons_zero, List.set_cons_succ]
      refine wpAnyH_take (i := 3) (v := ?_) (by simp only [List.getElem?_toArray, List.getElem?_cons_succ, List.getElem?_cons_zero]; rfl) (by kernel_rfl) (by kernel_rfl) (by kernel_rfl) (fun _ _ _ h => h) (Or.inl ⟨by rfl, ?_⟩) (by assumption) ?_
      rotate_left 1
      · (intro w hSw; (try dsimp only at hSw); go_simp; try with_reducible rfl)
      try simp only [Act.put, List.setIfInBounds_toArray, List.set_cons_zero, List.set_cons_succ]
      refine wpAnyH_take (i := 4) (v := ?_) (by simp only [List.getElem?_toArray, List.getElem?_cons_succ, List.getElem?_cons_zero]; rfl) (by kernel_rfl) (by kernel_rfl) (by kernel_rfl) (fun _ _ _ h => h) (Or.inl ⟨by rfl, ?_⟩) (by assumption) ?_
      rotate_left 1
      · (intro w hSw; (try dsimp only at hSw); go_simp; try with_reducible rfl)
      try simp only [Act.put, List.setIfInBounds_toArray, List.set_cons_zero, List.set_cons_succ]
      refine wpAnyH_take (i := 5) (v := ?_) (by simp only [List.getElem?_toArray, List.getElem?_cons_succ, List.getElem?_cons_zero]; rfl) (by kernel_rfl) (by kernel_rfl) (by kernel_rfl) (fun _ _ _ h => h) (Or.inl ⟨by rfl, ?_⟩) (by assumption) ?_
      rotate_left 1
      · (intro w hSw; (try dsimp only at hSw); go_simp; try with_reducible rfl)
      try simp only [Act.put, List.setIfInBounds_toArray, List.set_cons_zero, List.set_cons_succ]
      refine wpAnyH_ready (rs := [6]) (by kernel_rfl) (by simp) ?_
      refine AllReadyH.cons (by simp only [List.getElem?_toArray, List.getElem?_cons_succ, List.getElem?_cons_zero]; rfl) (fun K hK => ?_) ?_
      rotate_left 1
      · exact AllReadyH.nil
      go_simp
      refine (ld_bytes _ w.heap.size A m c l (H.out.below B9.out.drew) B9.out.drew.size hm).mono ?_; rintro e w9 ⟨gb, rfl, hgb, hbb, hblb⟩; rw [← hrl.out] at hbb; have e2 := cvt' hcv (w := w9) 64 (by_blk (Z9.out.drew.below hblb) r64.out); have e3 := cvt' hcv (w := w9) 64 (by_blk hbb r64.out); have H10 := hide (H9.out.drew.below hblb); have Z10 := hide (Z9.out.drew.below hblb); clear hbb hblb hgb; go_wp2_with fail
      refine hK.out _ _ ?_ (fun hHeld2 => ?_)
      · ((try dsimp only) <;> (first | trivial | assumption | go_keep))
      clear hHeld
      have hHeld := hHeld2
      clear hHeld2 hK K
      try simp only [Act.put, List.setIfInBounds_toArray, List.set_cons_zero, List.set_cons_succ]
      refine wpAnyH_ready (rs := [7]) (by kernel_rfl) (by simp) ?_
      refine AllReadyH.cons (by simp only [List.getElem?_toArray, List.getElem?_cons_succ, List.getElem?_cons_zero]; rfl) (fun K hK => ?_) ?_
      rotate_left 1
      · exact AllReadyH.nil
      go_simp
      refine hK.out _ _ ?_ (fun hHeld2 => ?_)
      · ((try dsimp only) <;> (first | trivial | assumption | go_keep))
      clear hHeld
      have hHeld := hHeld2
      clear hHeld2 hK K
      try simp only [Act.put, List.setIfInBounds_toArray, List.set_cons_zero, List.set_cons_succ]
      refine wpAnyH_take (i := 8) (v := ?_) (by simp only [List.getElem?_toArray, List.getElem?_cons_succ, List.getElem?_cons_zero]; rfl) (by kernel_rfl) (by kernel_rfl) (by kernel_rfl) (fun _ _ _ h => h) (Or.inl ⟨by rfl, ?_⟩) (by assumption) ?_
      rotate_left 1
      · (intro w hSw; (try dsimp only at hSw); go_simp; try with_reducible rfl)
      try simp only [Act.put, List.setIfInBounds_toArray, List.set_cons_zero, List.set_cons_succ]
      refine wpAnyH_take (i := 9) (v := ?_) (by simp only [List.getElem?_toArray, List.getElem?_cons_succ, List.getElem?_cons_zero]; rfl) (by kernel_rfl) (by kernel_rfl) (by kernel_rfl) (fun _ _ _ h => h) (Or.inl ⟨by rfl, ?_⟩) (by assumption) ?_
      rotate_left 1
      · (intro w hSw; (try dsimp only at hSw); go_simp; try with_reducible rfl)
      try simp only [Act.put, List.setIfInBounds_toArray, List.set_cons_zero, List.set_cons_succ]
      refine wpAnyH_take (i := 10) (v := ?_) (by simp only [List.getElem?_toArray, List.getElem?_cons_succ, List.getElem?_cons_zero]; rfl) (by kernel_rfl) (by kernel_rfl) (by kernel_rfl) (fun _ _ _ h => h) (Or.inl ⟨by rfl, ?_⟩) (by assumption) ?_
      rotate_left 1
      · (intro w hSw; (try dsimp only at hSw); go_simp; try with_reducible rfl)
      try simp only [Act.put, List.setIfInBounds_toArray, List.set_cons_zero, List.set_cons_succ]
      refine wpAnyH_take (i := 11) (v := ?_) (by simp only [List.getElem?_toArray, List.getElem?_cons_succ, List.getElem?_cons_zero]; rfl) (by kernel_rfl) (by kernel_rfl) (by kernel_rfl) (fun _ _ _ h => h) (Or.inl ⟨by rfl, ?_⟩) (by assumption) ?_
      rotate_left 1
      · (intro w hSw; (try dsimp only at hSw); go_simp; try with_reducible rfl)
      try simp only [Act.put, List.setIfInBounds_toArray, List.set_cons_zero, List.set_cons_succ]
      refine wpAnyH_ready (rs := [12]) (by kernel_rfl) (by simp) ?_
      refine AllReadyH.cons (by simp only [List.getElem?_toArray, List.getElem?_cons_succ, List.getElem?_cons_zero]; rfl) (fun K hK => ?_) ?_
      rotate_left 1
      · exact AllReadyH.nil
      go_simp
      refine (ld_queue H10.out).mono ?_; rintro e w10 ⟨A10, c10, rfl, hq10, hb10⟩; rw [show ((freshD (k + 1)).wrote i (round64 l)).queue.length = 1 from rfl]; have e4 := cvt' hcv (w := w10) 64 (by_blk (Z10.out.below hb10) r64.out); have B10 := hide (B1.out.trans ((H10.out.below hb10).bel.mono B1.out.size)); clear hq10 hb10; go_wp2_with fail
      refine hK.out _ _ ?_ (fun hHeld2 => ?_)
      · ((try dsimp only) <;> (first | trivial | assumption | go_keep))
      clear hHeld
      have hHeld := hHeld2
      clear hHeld2 hK K
      try simp only [Act.put, List.setIfInBounds_toArray, List.set_cons_zero, List.set_cons_succ]
      refine wpAnyH_take (i := 13) (v := ?_) (by simp only [List.getElem?_toArray, List.getElem?_cons_succ, List.getElem?_cons_zero]; rfl) (by kernel_rfl) (by kernel_rfl) (by kernel_rfl) (fun _ _ _ h => h) (Or.inl ⟨by rfl, ?_⟩) (by assumption) ?_
      rotate_left 1
      · (intro w hSw; (try dsimp only at hSw); go_simp; try with_reducible rfl)
      try simp only [Act.put, List.setIfInBounds_toArray, List.set_cons_zero, List.set_cons_succ]
      refine wpAnyH_take (i := 14) (v := ?_) (by simp only [List.getElem?_toArray, List.getElem?_cons_succ, List.getElem?_cons_zero]; rfl) (by kernel_rfl) (by kernel_rfl) (by kernel_rfl) (fun _ _ _ h => h) (Or.inl ⟨by rfl, ?_⟩) (by assumption) ?_
      rotate_left 1
      · (intro w hSw; (try dsimp only at hSw); go_simp; try with_reducible rfl)
      try simp only [Act.put, List.setIfInBounds_toArray, List.set_cons_zero, List.set_cons_succ]
      refine wpAnyH_take (i := 15) (v := ?_) (by simp only [List.getElem?_toArray, List.getElem?_cons_succ, List.getElem?_cons_zero]; rfl) (by kernel_rfl) (by kernel_rfl) (by kernel_rfl) (fun _ _ _ h => h) (Or.inl ⟨by rfl, ?_⟩) (by assumption) ?_
      rotate_left 1
      · (intro w hSw; (try dsimp only at hSw); go_simp; try with_reducible rfl)
      try simp only [Act.put, List.setIfInBounds_toArray, List.set_cons_zero, List.set_cons_succ]
      refine wpAnyH_take (i := 16) (v := ?_) (by simp only [List.getElem?_toArray, List.getElem?_cons_succ, List.getElem?_cons_zero]; rfl) (by kernel_rfl) (by kernel_rfl) (by kernel_rfl) (fun _ _ _ h => h) (Or.inl ⟨by rfl, ?_⟩) (by assumption) ?_
      rotate_left 1
      · (intro w hSw; (try dsimp only at hSw); go_simp; try with_reducible rfl)
      try simp only [Act.put, List.setIfInBounds_toArray, List.set_cons_zero, List.set_cons_succ]
      refine wpAnyH_done (by kernel_rfl) ?_ _
      refine NoPanic.normal ?_
      go_wp2_with fail
      go_ret
      exact ⟨rfl, B10.out⟩

theorem reads_all (n i : Int) (A : Option Addr) (m c : Nat) (l : List UInt8) (w : World) (h : By w w.heap.size A m l) (hm : m ≤ 9223372036854775807) :
    Calls Try.prog 3 #[.int .i64 n, .int .i64 i, .slice A m c] w fun e w' => e = .returned (.bool true) ∧ Below w.heap.size w w' := by
  obtain ⟨k, hk, hlt⟩ := modU n 4096 (by decide) (by decide)
  by_cases hi : 0 ≤ i ∧ i < (k : Int) + 1
  · obtain ⟨j, rfl⟩ : ∃ j : Nat, i = (j : Int) := ⟨i.toNat, by omega⟩
    exact reads_in n j A m c l w h hm k hk (by omega) (by omega)
  · exact reads_out n i A m c l w h hm (fun k' hk' => by rw [hk] at hk'; omega)
end Go.Proofs.Ytpcaaobninnkaaa
