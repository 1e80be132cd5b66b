/- The walk over disk.Queue: the blocks of its writes. -/
import Derived.Test.YtpcaaobninnkaaaDskByW
namespace Go.Proofs.Ytpcaaobninnkaaa
open Go.RowKit

/-- Numbers of blocks as cells. -/
def atC (l : List Nat) : List Value := l.map fun (n : Nat) => Value.int .i64 (n : Int)
theorem atC_app (l : List Nat) (n : Nat) : atC l ++ [.int .i64 (n : Int)] = atC (l ++ [n]) := by simp [atC]
theorem etyI : Ety Try.prog 34 3 (.int .i64 0) 8 := Ety.mk' Try.underlying34 (by kernel_rfl) (by rfl) (by decide)
theorem in_slice (w : World) (n : Nat) : (Instr.buildSlice 34 1 #[(0, .int .i64 (n : Int))]).run Try.prog w = .ok (.slice (some ⟨w.heap.size, 0, none⟩) 1 1) (w.alloc (.cells #[.int .i64 (n : Int)] 3)) := by
  have hz : (Try.prog.info? 3).map (fun i => (i.zero, i.size, i.bytes)) = some (some (.int .i64 0), 1, 8) := by kernel_rfl
  obtain ⟨ie, hi, h1, h2, h3⟩ := info_parts hz
  have hfill := Great.fill_whole (s := 1) (by omega) [Value.int .i64 (n : Int)] ((Array.range (1 * ie.size)).map ((Value.int .i64 0).cells[· % (Value.int .i64 0).cells.size]!)) (fun v hv => by
    rw [List.mem_singleton] at hv
    subst hv
    simp [Value.cells]) (by simp [h2])
  refine run_buildSlice w 34 3 1 _ #[.int .i64 (n : Int)] ie _ Try.underlying34 hi h1 (by rw [h2]; omega) (by rw [h2]; omega) ?_
  rw [h2] at hfill ⊢
  simpa [Value.cells] using hfill

theorem bel_grow {B : Nat} {a w w' : World} (h : Below B a w) {r : Option Nat} (hg : w.grownBy w' r) (hr : ∀ g, r = some g → B ≤ g) (hB : B ≤ w.heap.size := by simp) : Below B a w' :=
  ⟨hg.os.trans h.os, hg.tape.trans h.tape, hg.output.trans h.output, Nat.le_trans h.size hg.size, fun i hi => (hg.block i (Nat.lt_of_lt_of_le hi hB) (fun e => by have := hr i e.symm; omega)).trans (h.block i hi)⟩
/-- Sizes and zero values, kept whole in a walk. -/
def szK_queue_any : Sem Nat := sizeOf 67
theorem szK_queue_any_keep : sizeOf 67 = szK_queue_any := rfl
def zvK_queue_any : Sem Value := zeroValue 67
theorem zvK_queue_any_keep : zeroValue 67 = zvK_queue_any := rfl
def szL_queue_any : Sem Nat := sizeOf 69
theorem szL_queue_any_keep : sizeOf 69 = szL_queue_any := rfl
attribute [local go_sem ↓] szK_queue_any_keep zvK_queue_any_keep szL_queue_any_keep in
theorem queue_any (w : World) (base d s : Nat) (v : Value) (D : Dsk) (h : DskA w base d s v D) :
    Calls Try.prog 17 #[.pointer (some ⟨d, 0, none⟩)] w fun e w' => ∃ A c, e = .returned (.slice A D.queue.length c) ∧ w'.ownsRow w.heap.size 3 1 (.slice A D.queue.length c) D.queue.length (atC (D.queue.map (·.1))) ∧ Below w.heap.size w w' := by
  obtain ⟨c0, c1, c2, c3, f1, f2, f3⟩ := dsk_cells h
  have kz' := wr_zero
  obtain ⟨k', hk'⟩ : ∃ k, k = 65 := ⟨_, rfl⟩
  have ks' : ∀ w, szL_queue_any.run Try.prog w = .ok k' w := fun w => by rw [hk']; exact Try.sizeOf69 w
  have K := hide hk'
  have H := hide h
  have hqn := h.ok.qn
  have hq := hide h.ok.q
  obtain ⟨A, c, rfl, hA⟩ := dsk_slice h
  have HA := hide hA
  clear hk' h hA
  go_enter Try.func17, Try.ntmps17
  go_wp2_with fail
  go_loopw [3, 11] (fun x y wr => ∃ j A' c', j ≤ D.queue.length ∧ x = .slice A' j c' ∧ y = .int .i64 (j : Int) ∧ wr.ownsRow w.heap.size 3 1 (.slice A' j c') j (atC ((D.queue.map (·.1)).take j)) ∧ Below w.heap.size w wr) (fun _ y _ => D.queue.length - (intOf y).toNat)
  case atStart => exact ⟨0, none, 0, Nat.zero_le _, rfl, rfl, by simpa [atC] using World.ownsRow_nil w w.heap.size 3 1, Below.refl _ _⟩
  case round =>
    obtain ⟨j, A', c', hj, rfl, rfl, h1, h2⟩ := hrel
    have H1 := hide h1
    have H2 := hide h2
    clear h1 h2
    by_cases hlt : j < D.queue.length
    · obtain ⟨x, hx⟩ : ∃ x, D.queue[j]? = some x := ⟨_, List.getElem?_eq_getElem hlt⟩
      have hxl := (hq.out x (List.mem_of_getElem? hx)).1
      have Dr := dsk_kp H.out (Kp.of_below (gs := []) H2.out) (by simp) (by simp) (by simp)
      obtain ⟨g, hAg, -⟩ := HA.out j x hx
      subst hAg
      obtain ⟨g', c'', e, hr⟩ := at_queue Dr j x hx
      injection e with e1
      injection e1 with e1
      injection e1 with e1
      subst e1
      have hk' := K.out
      have hwl : (wrC x).length = k' := by rw [wrC, List.length_cons, u8s_length, hxl, hk']
      have k3 := ld_mid wr g (j * k') k' _ hwl (by rw [hk']; exact hr)
      have k4 := st_wr wr x (0, zero64) hxl (by unfold zero64; rw [List.length_replicate])
      have k5 : (wr.alloc (.cells (wrC x).toArray 69)).cell? ⟨wr.heap.size, 0, none⟩ = some (.int .i64 (x.1 : Int)) := (Blk.new wr _ _).cell 0
      have k6 := in_slice (wr.alloc (.cells (wrC x).toArray 69)) x.1
      have hst : Hid ((D.queue.map (·.1)).take (j + 1) = (D.queue.map (·.1)).take j ++ [x.1]) := by
        rw [List.take_add_one, List.getElem?_map, hx]; simp [Hid]
      have hb3 := hide ((H2.out.alloc H2.out.size (.cells (wrC x).toArray 69)).alloc (Nat.le_trans H2.out.size (by simp)) (.cells #[.int .i64 (x.1 : Int)] 3))
      clear hk' Dr hr hx
      have hownW := hide (own_keep H1.out (((Below.refl _ _).alloc (Nat.le_refl _) (.cells (wrC x).toArray 69)).alloc (by simp) (.cells #[.int .i64 (x.1 : Int)] 3)))
      have hnew : Hid (Sl ((wr.alloc (.cells (wrC x).toArray 69)).alloc (.cells #[.int .i64 (x.1 : Int)] 3)) (wr.heap.size + 2) (some ⟨wr.heap.size + 1, 0, none⟩) 1 [.int .i64 (x.1 : Int)]) := by
        have := Blk.new (wr.alloc (.cells (wrC x).toArray 69)) 3 #[.int .i64 (x.1 : Int)]
        have e : (wr.alloc (.cells (wrC x).toArray 69)).heap.size = wr.heap.size + 1 := by simp
        rw [e] at this
        refine hide ⟨rfl, fun i u hu => ⟨_, rfl, by simp, ?_⟩⟩
        rw [Addr.add_mid, Nat.zero_add, this.cell]
        simpa using hu
      have hsz := hide H2.out.size
      go_wp2_with (
        at_builtin
        refine wpList_app _ rfl (.tmp 15) (.tmp 18) _ rfl etyI w.heap.size (.slice A' j c') j _ rfl hownW.out (wr.heap.size + 2) (some ⟨wr.heap.size + 1, 0, none⟩) 1 1 [.int .i64 (x.1 : Int)] rfl
          hnew.out (by intro u hu; rw [List.mem_singleton] at hu; rw [hu]; rfl) (by omega) (Nat.le_trans hsz.out (by simp; omega)) ?_
        intro A2 c2 w2 hown2 hg2 _
        have Hb2 := hide (bel_grow hb3.out hg2 (fun g hg => (hownW.out.lt g hg).1) (Nat.le_trans hsz.out (by simp; omega)))
        rw [atC_app, ← hst.out] at hown2
        have Hown2 := hide hown2
        clear hg2 hown2)
      go_roundw
      case rel => exact ⟨_, _, _, ⟨j + 1, by omega, A2, c2, rfl, by go_num, Hown2.out, Hb2.out⟩, rfl, rfl, rfl⟩
      case measure => simp [intOf]; omega
    · have hjn : j = D.queue.length := by omega
      have HL : Hid (wr.ownsRow w.heap.size 3 1 (.slice A' D.queue.length c') D.queue.length (atC (D.queue.map (·.1)))) := by
        have := H1.out
        rw [hjn, List.take_of_length_le (by simp)] at this
        exact hide this
      go_wp2_with fail
      go_ret
      rw [hjn]
      exact ⟨A', c', rfl, HL.out, H2.out⟩
end Go.Proofs.Ytpcaaobninnkaaa
