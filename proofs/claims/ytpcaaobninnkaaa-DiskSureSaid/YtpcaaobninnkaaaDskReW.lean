/- The walk over disk.Read. -/
import Derived.Test.YtpcaaobninnkaaaDskRdW
import Derived.Deep.WholeRow
namespace Go.Proofs.Ytpcaaobninnkaaa
open Go.RowKit

/-- What a block reads as. -/
def readQ (q : List (Nat × List UInt8)) (i : Nat) (b : List UInt8) : List UInt8 := q.foldl (fun b x => if x.1 = i then x.2 else b) b
def Dsk.read (D : Dsk) (i : Nat) : List UInt8 := readQ D.queue i (D.sure.getD i [])

theorem ld_mid (w : World) (b o n : Nat) (cs : List Value) (hn : cs.length = n) (h : w.rangeAt b o cs) : (loadCellsFrom ⟨b, o, none⟩ 0 n #[]).run Try.prog w = .ok cs.toArray w := by
  subst hn
  have := run_loadCells_list (P := Try.prog) w ⟨b, o, none⟩ cs (fun j v hv => by rw [Addr.add_mid]; exact h j v hv)
  simpa [loadCells] using this
theorem blk_zero : (∀ w, (zeroValue 67).run Try.prog w = .ok (.agg (u8s zero64).toArray) w) := (zero_of_info (P := Try.prog) (t := 67) (v := .agg (u8s zero64).toArray) (n := 64) (by kernel_rfl)).1
theorem wr_zero : (∀ w, (zeroValue 69).run Try.prog w = .ok (.agg (wrC (0, zero64)).toArray) w) := (zero_of_info (P := Try.prog) (t := 69) (v := .agg (wrC (0, zero64)).toArray) (n := 65) (by kernel_rfl)).1
theorem u8s_one2 (x : List UInt8) : (u8s x).toArray.all (·.oneCell') = true := all_oneCell_toArray (fun v hv => by
  simp only [u8s, List.mem_map] at hv
  obtain ⟨a, _, rfl⟩ := hv
  rfl)
theorem wrC_one (x : Nat × List UInt8) : (wrC x).toArray.all (·.oneCell') = true := all_oneCell_toArray (fun v hv => by
  simp only [wrC, u8s, List.mem_cons, List.mem_map] at hv
  rcases hv with rfl | ⟨a, _, rfl⟩ <;> rfl)
theorem st_blk (w : World) (x y : List UInt8) (hx : x.length = 64) (hy : y.length = 64) : (storeCells ⟨w.heap.size, 0, none⟩ (u8s x) 0).run Try.prog (w.alloc (.cells (u8s y).toArray 67)) = .ok () (w.alloc (.cells (u8s x).toArray 67)) :=
  run_storeCells_new w _ _ (u8s x).toArray (by rw [List.size_toArray, u8s_length, hx]; kernel_rfl) (by simp [u8s_length, hx, hy]) (u8s_one2 x)
theorem st_wr (w : World) (x y : Nat × List UInt8) (hx : x.2.length = 64) (hy : y.2.length = 64) : (storeCells ⟨w.heap.size, 0, none⟩ (wrC x) 0).run Try.prog (w.alloc (.cells (wrC y).toArray 69)) = .ok () (w.alloc (.cells (wrC x).toArray 69)) :=
  run_storeCells_new w _ _ (wrC x).toArray (by rw [List.size_toArray, wrC, List.length_cons, u8s_length, hx]; kernel_rfl) (by simp [wrC, u8s_length, hx, hy]) (wrC_one x)

theorem bel_row {B : Nat} {a w : World} (h : Below B a w) {g : Nat} (hg : B ≤ g) (cs : Array Value) : Below B a (w.setRow g cs) :=
  ⟨h.os, h.tape, h.output, by simpa [World.setRow] using h.size, fun i hi => by
    rw [← h.block i hi]
    have : g ≠ i := by omega
    simp [World.setRow, Array.getElem?_modify, this]⟩
theorem dsk_slice {w : World} {base d s : Nat} {v : Value} {D : Dsk} (h : DskA w base d s v D) : ∃ A c, v = .slice A D.queue.length c ∧ ∀ i x, D.queue[i]? = some x → ∃ g, A = some ⟨g, 0, none⟩ ∧ w.rangeAt g (i * 65) (wrC x) := by
  rcases h.hq.2 with ⟨h0, hn⟩ | ⟨g, cap, cur, h1, h2⟩
  · exact ⟨none, 0, by rw [hn]; exact h0, fun i x hx => by
      have := (List.getElem?_eq_some_iff.1 hx).1
      omega⟩
  · refine ⟨some ⟨g, 0, none⟩, cap, h1, fun i x hx => ⟨g, rfl, ?_⟩⟩
    obtain ⟨g', c', e, hr⟩ := at_queue h i x hx
    rw [h1] at e
    injection e with e1 e2 e3
    injection e1 with e1
    injection e1 with e1
    rw [e1]; exact hr
theorem readQ_step (q : List (Nat × List UInt8)) (i j : Nat) (b : List UInt8) (x : Nat × List UInt8) (hx : q[j]? = some x) : readQ (q.take (j + 1)) i b = if x.1 = i then x.2 else readQ (q.take j) i b := by
  unfold readQ
  rw [List.take_add_one, hx, List.foldl_append]
  rfl
theorem readQ_len (q : List (Nat × List UInt8)) (i : Nat) (b : List UInt8) (hb : b.length = 64) (hq : ∀ x ∈ q, x.2.length = 64) : (readQ q i b).length = 64 := by
  induction q generalizing b with
  | nil => exact hb
  | cons x q ih =>
    show (readQ q i (if x.1 = i then x.2 else b)).length = 64
    refine ih _ ?_ (fun y hy => hq y (by simp [hy]))
    split
    · exact hq x (by simp)
    · exact hb

theorem run_row {P : Program} (w : World) (g : Nat) (t : TypeId) (old c' : Array Value) (hg : w.heap[g]? = some (.cells old t (0, 0))) (hi : (P.info? t).map (·.size) = some c'.size) (ho : old.size = c'.size) (h1 : c'.all (·.oneCell') = true) :
    (storeCells ⟨g, 0, none⟩ c'.toList 0).run P w = .ok () (w.setRow g c') := by
  have := run_storeVar_row (P := P) w g t t old c' hg hi ho h1
  cases hq : P.info? t with
  | none => simp [hq] at hi
  | some i =>
    have hs : c'.size = i.size := by simp [hq] at hi; omega
    simpa [storeVar, sizeOf, typeInfo, hq, Value.cells, hs] using this
theorem st_row (w : World) (g : Nat) (x y : List UInt8) (hx : x.length = 64) (hy : y.length = 64) (hg : Blk w g 67 (u8s y).toArray) : (storeCells ⟨g, 0, none⟩ (u8s x) 0).run Try.prog w = .ok () (w.setRow g (u8s x).toArray) :=
  run_row w g _ _ (u8s x).toArray hg (by rw [List.size_toArray, u8s_length, hx]; kernel_rfl) (by simp [u8s_length, hx, hy]) (u8s_one2 x)

/-- Sizes and zero values, kept whole in a walk. -/
def szK_read_yes : Sem Nat := sizeOf 67
theorem szK_read_yes_keep : sizeOf 67 = szK_read_yes := rfl
def zvK_read_yes : Sem Value := zeroValue 67
theorem zvK_read_yes_keep : zeroValue 67 = zvK_read_yes := rfl
def szL_read_yes : Sem Nat := sizeOf 69
theorem szL_read_yes_keep : sizeOf 69 = szL_read_yes := rfl
attribute [local go_sem ↓] szK_read_yes_keep zvK_read_yes_keep szL_read_yes_keep in
theorem read_yes (w : World) (base d s : Nat) (v : Value) (D : Dsk) (i : Nat) (h : DskA w base d s v D) (hi : i < D.sure.length) :
    Calls Try.prog 13 #[.pointer (some ⟨d, 0, none⟩), .int .i64 (i : Int)] w fun e w' => ∃ g, e = .returned (.tuple #[.slice (some ⟨g, 0, none⟩) 64 64, .int .i64 0]) ∧ w.heap.size ≤ g ∧ Blk w' g 67 (u8s (D.read i)).toArray ∧ Below w.heap.size w w' := by
  obtain ⟨c0, c1, c2, c3, f1, f2, f3⟩ := dsk_cells h
  have hb := List.getElem?_eq_getElem hi
  have kz : ∀ w, zvK_read_yes.run Try.prog w = .ok (.agg (u8s zero64).toArray) w := blk_zero
  have kz' := wr_zero
  obtain ⟨k, hk⟩ : ∃ k, k = 64 := ⟨_, rfl⟩
  have ks : ∀ w, szK_read_yes.run Try.prog w = .ok k w := fun w => by rw [hk]; exact Try.sizeOf67 w
  obtain ⟨k', hk'⟩ : ∃ k, k = 65 := ⟨_, rfl⟩
  have ks' : ∀ w, szL_read_yes.run Try.prog w = .ok k' w := fun w => by rw [hk']; exact Try.sizeOf69 w
  have hb64 := h.ok.b _ (List.getElem_mem hi)
  have hsz : (u8s D.sure[i]).length = k := by rw [u8s_length, hk]; exact hb64
  have K := hide (And.intro hk hk')
  have hk0 : ¬ k = 0 := by omega
  have k2 := st_blk w D.sure[i] zero64 hb64 (by unfold zero64; rw [List.length_replicate])
  have k1 := ld_mid w s (i * k) k _ hsz (by rw [hk]; exact at_sure h i _ hb)
  have H := hide h
  have hn := h.ok.n
  have hq := hide h.ok.q
  have hqn := h.ok.qn
  obtain ⟨A, c, rfl, hA⟩ := dsk_slice h
  have HA := hide hA
  have cA : (w.alloc (.cells (u8s D.sure[i]).toArray 67)).cell? ⟨d, 1, none⟩ = some (.slice A D.queue.length c) := (h.hd.alloc _).cell 1
  have hread : D.read i = readQ D.queue i D.sure[i] := by unfold Dsk.read; rw [List.getD_eq_getElem?_getD, hb]; rfl
  rw [hread]
  have HB := hide hb64
  generalize D.sure[i] = b0 at *
  clear hk hk' h hA hread hb hb64
  go_enter Try.func13, Try.ntmps13
  go_upto_region 5 with fail
  go_loopw [32] (fun x wr => ∃ j : Nat, j ≤ D.queue.length ∧ x = .int .i64 (j : Int) ∧ Blk wr w.heap.size 67 (u8s (readQ (D.queue.take j) i b0)).toArray ∧ Below w.heap.size w wr) (fun x _ => D.queue.length - (intOf x).toNat)
  case atStart => exact ⟨0, Nat.zero_le _, rfl, Blk.new w _ _, (Below.refl _ _).alloc (Nat.le_refl _) _⟩
  case round =>
    obtain ⟨j, hj, rfl, h1, h2⟩ := hrel
    have H1 := hide h1
    have H2 := hide h2
    clear h1 h2 k1 k2 cA
    by_cases hlt : j < D.queue.length
    · have hx := List.getElem?_eq_getElem hlt
      obtain ⟨x, hx'⟩ : ∃ x, x = D.queue[j] := ⟨_, rfl⟩
      rw [← hx'] at hx
      have hxl := (hq.out x (List.mem_of_getElem? hx)).1
      have Dr := dsk_kp H.out (Kp.of_below (gs := []) H2.out) (by simp) (by simp) (by simp)
      obtain ⟨g, hAg, -⟩ := HA.out j x hx
      subst hAg
      obtain ⟨g', c', e, hr⟩ := at_queue Dr j x hx
      injection e with e1
      injection e1 with e1
      injection e1 with e1
      subst e1
      obtain ⟨hk, hk'⟩ := K.out
      have hwl : (wrC x).length = k' := by rw [wrC, List.length_cons, u8s_length, hxl, hk']
      have k3 := ld_mid wr g (j * k') k' _ hwl (by rw [hk']; exact hr)
      have k4 := st_wr wr x (0, zero64) hxl (by unfold zero64; rw [List.length_replicate])
      have k5 : (wr.alloc (.cells (wrC x).toArray 69)).cell? ⟨wr.heap.size, 0, none⟩ = some (.int .i64 (x.1 : Int)) := (Blk.new wr _ _).cell 0
      have k6 := ld_mid (wr.alloc (.cells (wrC x).toArray 69)) wr.heap.size 1 k (u8s x.2) (by rw [u8s_length, hxl, hk]) (fun n u hu => by
        rw [(Blk.new wr _ _).cell, Nat.add_comm]
        simpa [wrC] using hu)
      have hxk : (u8s x.2).length = k := by rw [u8s_length, hxl, hk]
      have k7 : (storeCells ⟨w.heap.size, 0, none⟩ (u8s x.2) 0).run Try.prog (wr.alloc (.cells (wrC x).toArray 69)) = .ok () ((wr.alloc (.cells (wrC x).toArray 69)).setRow w.heap.size (u8s x.2).toArray) :=
        st_row _ _ _ _ hxl (readQ_len _ i b0 HB.out (fun y hy => (hq.out y (List.mem_of_mem_take hy)).1)) (H1.out.alloc _)
      have hst := hide (readQ_step D.queue i j b0 x hx)
      have hbl := hide ((H1.out.alloc (.cells (wrC x).toArray 69)))
      have hbe := hide (H2.out.alloc (Nat.le_of_lt H1.out.lt) (.cells (wrC x).toArray 69))
      clear hk hk' Dr hr hx' hx
      generalize D.queue[j] = dq at *
      by_cases hxi : x.1 = i
      · go_wp2_with fail
        go_roundw
        case rel =>
          refine ⟨j + 1, by omega, by go_num, ?_, bel_row hbe.out (Nat.le_refl _) _⟩
          rw [hst.out, if_pos hxi]
          exact setRow_heap _ _ _ _ _ _ hbl.out
        case measure => simp [intOf]; omega
      · go_wp2_with fail
        go_roundw
        case rel =>
          refine ⟨j + 1, by omega, by go_num, ?_, hbe.out⟩
          rw [hst.out, if_neg hxi]
          exact hbl.out
        case measure => simp [intOf]; omega
    · have hjn : j = D.queue.length := by omega
      have HL : Hid (Blk wr w.heap.size 67 (u8s (readQ D.queue i b0)).toArray) := by
        have := H1.out
        rw [hjn, List.take_length] at this
        exact hide this
      clear hjn
      go_wp2_with fail
      go_ret2
      exact ⟨_, rfl, Nat.le_refl _, HL.out, H2.out⟩
end Go.Proofs.Ytpcaaobninnkaaa
