/- The walk over disk.Barrier, the whole. -/
import Derived.Test.YtpcaaobninnkaaaDskBrW
namespace Go.Proofs.Ytpcaaobninnkaaa
open Go.RowKit

theorem range_kp {w w' : World} {g o : Nat} {cs : List Value} (h : w.rangeAt g o cs) (e : w'.heap[g]? = w.heap[g]?) : w'.rangeAt g o cs := fun j v hv => by
  have := h j v hv
  simpa [World.cell?, e] using this
/-- The disk behind a barrier. -/
def Dsk.barred (D : Dsk) : Dsk := { D.stepped with sure := putQ D.queue D.sure, queue := [] }
theorem barrier_dead (w : World) (base d s : Nat) (v : Value) (D : Dsk) (h : DskA w base d s v D) (hl : D.left = 0) :
    Calls Try.prog 19 #[.pointer (some ⟨d, 0, none⟩)] w fun e w' => e = .returned (.int .i64 102) ∧ w = w' := by
  have H := hide h
  clear h
  go_enter Try.func19, Try.ntmps19
  go_wp2_with fail
  refine (step_dead w base d s v D H.out hl).mono ?_
  rintro e w1 ⟨rfl, rfl⟩
  go_wp2_with fail
  go_ret
  exact ⟨rfl, rfl⟩

/-- Sizes and zero values, kept whole in a walk. -/
def szK_barrier_ok : Sem Nat := sizeOf 67
theorem szK_barrier_ok_keep : sizeOf 67 = szK_barrier_ok := rfl
def zvK_barrier_ok : Sem Value := zeroValue 67
theorem zvK_barrier_ok_keep : zeroValue 67 = zvK_barrier_ok := rfl
def szL_barrier_ok : Sem Nat := sizeOf 69
theorem szL_barrier_ok_keep : sizeOf 69 = szL_barrier_ok := rfl
attribute [local go_sem ↓] szK_barrier_ok_keep zvK_barrier_ok_keep szL_barrier_ok_keep in
theorem barrier_ok (w : World) (base d s : Nat) (v : Value) (D : Dsk) (h : DskA w base d s v D) (hl : D.left ≠ 0) (hs : D.steps < 1000000) :
    Calls Try.prog 19 #[.pointer (some ⟨d, 0, none⟩)] w fun e w' => e = .returned (.int .i64 0) ∧ DskA w' base d s (.slice none 0 0) D.barred ∧ Kp [d, s] w w' := by
  have kz' := wr_zero
  obtain ⟨k, hk⟩ : ∃ k, k = 64 := ⟨_, rfl⟩
  have ks : ∀ w, szK_barrier_ok.run Try.prog w = .ok k w := fun w => by rw [hk]; exact Try.sizeOf67 w
  obtain ⟨k', hk'⟩ : ∃ k, k = 65 := ⟨_, rfl⟩
  have ks' : ∀ w, szL_barrier_ok.run Try.prog w = .ok k' w := fun w => by rw [hk']; exact Try.sizeOf69 w
  have K := hide (And.intro hk hk')
  have hk0 : ¬ k = 0 := by omega
  have H := hide h
  have hn := h.ok.n
  have hqn := h.ok.qn
  have hq := hide h.ok.q
  clear hk hk' h
  go_enter Try.func19, Try.ntmps19
  go_wp2_with fail
  refine (step_ok w base d s v D H.out hl hs).mono ?_
  rintro e w1 ⟨rfl, h1, hkp⟩
  have HK := hide hkp
  obtain ⟨c0, c1, c2, c3, f1, f2, f3⟩ := dsk_cells h1
  obtain ⟨A, c, rfl, hA⟩ := dsk_slice h1
  have HA := hide hA
  have H1 := hide h1
  clear h1 hkp hA H hl hs
  rw [show D.stepped.queue.length = D.queue.length from rfl] at c1
  go_wp2_with fail
  go_loopw [15] (fun x wr => ∃ j : Nat, j ≤ D.queue.length ∧ x = .int .i64 (j : Int) ∧ Blk wr s 67 (sureC (putQ (D.queue.take j) D.sure) ++ D.pad) ∧ Kp [s] w1 wr) (fun x _ => D.queue.length - (intOf x).toNat)
  case atStart => exact ⟨0, Nat.zero_le _, rfl, H1.out.hs, Kp.refl _ _⟩
  case round =>
    obtain ⟨j, hj, rfl, g1, g2⟩ := hrel
    have G1 := hide g1
    have G2 := hide g2
    clear g1 g2
    by_cases hlt : j < D.queue.length
    · obtain ⟨x, hx⟩ : ∃ x, D.queue[j]? = some x := ⟨_, List.getElem?_eq_getElem hlt⟩
      obtain ⟨hxl, hxs⟩ := hq.out x (List.mem_of_getElem? hx)
      obtain ⟨g, hAg, hr⟩ := HA.out j x hx
      subst hAg
      have hgs : g ≠ s := (H1.out.nq g rfl).2
      have hgl : g < w1.heap.size := by
        obtain ⟨g', c', e, -⟩ := at_queue H1.out j x hx
        rcases Nat.lt_or_ge g w1.heap.size with hl | hg
        · exact hl
        · have := hr 0 (.int .i64 x.1) (by simp [wrC])
          simp [World.cell?, Array.getElem?_eq_none hg] at this
      have hr2 := range_kp hr (G2.out.block g hgl (by simpa using hgs))
      obtain ⟨hk, hk'⟩ := K.out
      have hwl : (wrC x).length = k' := by rw [wrC, List.length_cons, u8s_length, hxl, hk']
      have k3 := ld_mid wr g (j * k') k' _ hwl (by rw [hk']; exact hr2)
      have k4 := st_wr wr x (0, zero64) hxl (by unfold zero64; rw [List.length_replicate])
      have k5 : (wr.alloc (.cells (wrC x).toArray 69)).cell? ⟨wr.heap.size, 0, none⟩ = some (.int .i64 (x.1 : Int)) := (Blk.new wr _ _).cell 0
      have k6 := ld_mid (wr.alloc (.cells (wrC x).toArray 69)).drew wr.heap.size 1 k (u8s x.2) (by rw [u8s_length, hxl, hk]) (fun n u hu => by
        show (wr.alloc _).cell? _ = _
        rw [(Blk.new wr _ _).cell, Nat.add_comm]
        simpa [wrC] using hu)
      have hxk : (u8s x.2).length = k := by rw [u8s_length, hxl, hk]
      have c0' : (wr.alloc (.cells (wrC x).toArray 69)).cell? ⟨d, 0, none⟩ = some (.slice (some ⟨s, 0, none⟩) D.sure.length D.cap) := ((H1.out.hd.kp G2.out (by simpa using H1.out.ne)).alloc _).cell 0
      have h64 := putQ_64 (D.queue.take j) D.sure (fun y hy => (hq.out y (List.mem_of_mem_take hy)).1) H1.out.ok.b
      have hsl : (putQ (D.queue.take j) D.sure).length = D.sure.length := putQ_len _ _
      have hB := (G1.out.alloc (.cells (wrC x).toArray 69)).drew
      have k7 := st_mid (wr.alloc (.cells (wrC x).toArray 69)).drew s (x.1 * k) x.2 (there_blk hB _ _ (by rw [Array.size_append, sureC_size _ h64, u8s_length, hxl, hsl, hk]; omega))
      have hP := hide (sure_put hB h64 (by rw [hsl]; exact hxs) x.2 hxl)
      have hKs := hide (Kp.sets (gs := [s]) (g := s) (by simp) (u8s x.2) (x.1 * 64) _ (G2.out.alloc (.cells (wrC x).toArray 69)).drew)
      have hst := hide (putQ_step D.queue j D.sure x hx)
      have hKk := hide hk
      clear hk hk' hx hr hr2 hB h64 hsl hgs hgl
      go_wp2_with fail
      go_region
      all_goals
        go_wp2_with fail
        go_roundw
        case rel =>
          refine ⟨j + 1, by omega, by go_num, ?_, ?_⟩
          · rw [hst.out, hKk.out]; exact hP.out
          · rw [hKk.out]; exact hKs.out
        case measure => simp [intOf]; omega
    · have hjn : j = D.queue.length := by omega
      have HL : Hid (Blk wr s 67 (sureC (putQ D.queue D.sure) ++ D.pad)) := by
        have := G1.out
        rw [hjn, List.take_length] at this
        exact hide this
      clear hjn
      have c1' : wr.cell? ⟨d, 1, none⟩ = some (.slice A D.queue.length c) := (H1.out.hd.kp G2.out (by simpa using H1.out.ne)).cell 1
      have f1' : wr.frozen? ⟨d, 1, none⟩ = false := (H1.out.hd.kp G2.out (by simpa using H1.out.ne)).frozen 1
      go_wp2_with fail
      go_ret
      have ne := H1.out.ne
      refine ⟨rfl, ⟨?_, HL.out.far (p := ⟨d, 1, none⟩) ne.symm _, ⟨rfl, .inl ⟨rfl, rfl⟩⟩, ne, (fun g hg => by cases hg), H1.out.db, H1.out.sb, ?_⟩, ?_⟩
      · have := (H1.out.hd.kp G2.out (by simpa using ne)).set 1 (.slice none 0 0)
        rw [show D.barred.sure.length = D.sure.length from putQ_len _ _]
        exact this
      · exact { H1.out.ok with b := putQ_64 _ _ (fun y hy => (hq.out y hy).1) H1.out.ok.b, q := (fun y hy => by cases hy), n := (by rw [show D.barred.sure.length = D.sure.length from putQ_len _ _]; exact hn), qn := Nat.zero_le _ }
      · exact ((HK.out.more (by simp)).trans (G2.out.more (by simp))).set (.inl (by simp)) _
end Go.Proofs.Ytpcaaobninnkaaa
