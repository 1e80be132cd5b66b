/- The walk over disk.Write, done. -/
import Derived.Test.YtpcaaobninnkaaaDskBuW
import Derived.Deep.AppendLies
import Derived.Deep.RegionLaw
namespace Go.Proofs.Ytpcaaobninnkaaa
open Go.RowKit

theorem blk_grown {w w' : World} {r : Option Nat} {g : Nat} {t : TypeId} {cs : Array Value} (h : Blk w g t cs) (hg : w.grownBy w' r) (hn : some g ≠ r) : Blk w' g t cs := (hg.block g h.lt hn).trans h
theorem Kp.grown {gs : List Nat} {a w w' : World} (h : Kp gs a w) {r : Option Nat} (hg : w.grownBy w' r) (hr : ∀ g, r = some g → g ∈ gs) : Kp gs a w' :=
  ⟨hg.os.trans h.os, hg.tape.trans h.tape, hg.output.trans h.output, Nat.le_trans h.size hg.size, fun i hi hn => (hg.block i (Nat.lt_of_lt_of_le hi h.size) (fun e => hn (hr i e.symm))).trans (h.block i hi hn)⟩

/-- The disk behind a write. -/
def Dsk.wrote (D : Dsk) (i : Nat) (b : List UInt8) : Dsk := { D.stepped with queue := D.queue ++ [(i, b)] }
theorem queueC_app (l : List (Nat × List UInt8)) (x : Nat × List UInt8) : queueC l ++ wrC x = queueC (l ++ [x]) := by simp [queueC]
/-- What stands when the new row is stored into the disk. -/
theorem wrote_end {w w1 w2 : World} {base d s g cap i : Nat} {v : Value} {D : Dsk} {b : List UInt8} {cs : Array Value} (H1 : DskA w1 base d s v D.stepped) (HK : Kp [d] w w1)
    (hd : Blk (w1.drew.alloc (.cells cs 69)) d 65 #[.slice (some ⟨s, 0, none⟩) D.stepped.sure.length D.stepped.cap, v, .int .i64 (D.stepped.steps : Int), .int .i64 D.stepped.left])
    (hs : Blk (w1.drew.alloc (.cells cs 69)) s 67 (sureC D.stepped.sure ++ D.stepped.pad))
    (HX : w2.ownsRow base 69 65 (.slice (some ⟨g, 0, none⟩) (D.queue.length + 1) cap) (D.queue.length + 1) (queueC D.queue ++ wrC (i, b)) ∧ (w1.drew.alloc (.cells cs 69)).grownBy w2 v.ownBlock ∧
      (v.ownBlock = some g ∨ g = (w1.drew.alloc (.cells cs 69)).heap.size) ∧ g < w2.heap.size)
    (hi : i < D.sure.length) (hb : b.length = 64) (hq : D.queue.length < 1000000) :
    DskA (w2.setCell ⟨d, 1, none⟩ (.slice (some ⟨g, 0, none⟩) (D.queue.length + 1) cap)) base d s (.slice (some ⟨g, 0, none⟩) (D.queue.length + 1) cap) (D.wrote i b) ∧
      (∀ gs, d ∈ gs → (∀ g, v.ownBlock = some g → g ∈ gs) → Kp gs w (w2.setCell ⟨d, 1, none⟩ (.slice (some ⟨g, 0, none⟩) (D.queue.length + 1) cap))) ∧
      (∀ h, (Value.slice (some ⟨g, 0, none⟩) (D.queue.length + 1) cap).ownBlock = some h → v.ownBlock = some h ∨ w.heap.size ≤ h) := by
  obtain ⟨hown, hgrow, hat, hlt⟩ := HX
  have hvd : some d ≠ v.ownBlock := fun e => (H1.nq d e.symm).1 rfl
  have hvs : some s ≠ v.ownBlock := fun e => (H1.nq s e.symm).2 rfl
  have hsz := HK.size
  have hgne : g ≠ d ∧ g ≠ s := by
    rcases hat with h | h
    · exact H1.nq g h
    · have := H1.hd.lt
      have := H1.hs.lt
      have e : (w1.drew.alloc (.cells cs 69)).heap.size = w1.heap.size + 1 := by simp
      rw [e] at h
      omega
  refine ⟨⟨?_, (blk_grown hs hgrow hvs).far (p := ⟨d, 1, none⟩) H1.ne.symm _, ?_, H1.ne, ?_, H1.db, H1.sb, ?_⟩, ?_, ?_⟩
  · have := (blk_grown hd hgrow hvd).set 1 (.slice (some ⟨g, 0, none⟩) (D.queue.length + 1) cap)
    exact this
  · show (World.setCell _ _ _).ownsRow base _ 65 _ (D.queue ++ [(i, b)]).length (queueC (D.queue ++ [(i, b)]))
    rw [show (D.queue ++ [(i, b)]).length = D.queue.length + 1 by simp, ← queueC_app]
    refine ⟨hown.1, ?_⟩
    rcases hown.2 with h0 | ⟨g', cap', cur, h2, h3, h4, h5⟩
    · exact .inl h0
    · refine .inr ⟨g', cap', cur, h2, h3, ?_, h5⟩
      injection h2 with e1 e2 e3
      injection e1 with e1
      injection e1 with e1
      refine (Below.heap_setCell _ ⟨d, 1, none⟩ _ g' ?_).trans h4
      show g' ≠ d
      rw [← e1]; exact hgne.1
  · intro h hh
    simp only [Value.ownBlock, Option.some.injEq] at hh
    rw [← hh]; exact hgne
  · refine { H1.ok with q := fun x hx => ?_, qn := ?_ }
    · rcases List.mem_append.1 hx with hx | hx
      · exact H1.ok.q x hx
      · rw [List.mem_singleton] at hx
        subst hx
        exact ⟨hb, hi⟩
    · show (D.queue ++ [(i, b)]).length ≤ 1000000
      simp; omega
  · intro gs h1 h2
    exact ((((HK.more (gs' := gs) (by simpa using h1)).drew).alloc _).grown hgrow h2).set (.inl h1) _
  · intro h hh
    simp only [Value.ownBlock, Option.some.injEq] at hh
    subst hh
    rcases hat with h | h
    · exact .inl h
    · right
      rw [h]
      simp
      omega

/-- Sizes and zero values, kept whole in a walk. -/
def szK_write_ok : Sem Nat := sizeOf 67
theorem szK_write_ok_keep : sizeOf 67 = szK_write_ok := rfl
def zvK_write_ok : Sem Value := zeroValue 67
theorem zvK_write_ok_keep : zeroValue 67 = zvK_write_ok := rfl
def szL_write_ok : Sem Nat := sizeOf 69
theorem szL_write_ok_keep : sizeOf 69 = szL_write_ok := rfl
attribute [local go_sem ↓] szK_write_ok_keep zvK_write_ok_keep szL_write_ok_keep in
attribute [local go_sem ↓] buildK_keep buildSliceK_keep in
theorem write_ok (w : World) (base d s : Nat) (v : Value) (D : Dsk) (i : Nat) (ad : Addr) (c : Nat) (b : List UInt8) (h : DskA w base d s v D) (hi : i < D.sure.length) (hl : D.left ≠ 0) (hs : D.steps < 1000000) (hq : D.queue.length < 1000000)
    (hb : b.length = 64) (hc : 64 ≤ c) (hsrc : ∀ w', Kp [d] w w' → ∀ j u, (u8s b)[j]? = some u → w'.cell? (ad.add j) = some u) :
    Calls Try.prog 14 #[.pointer (some ⟨d, 0, none⟩), .int .i64 (i : Int), .slice (some ad) 64 c] w fun e w' => e = .returned (.int .i64 0) ∧ ∃ v', DskA w' base d s v' (D.wrote i b) ∧
      (∀ gs, d ∈ gs → (∀ g, v.ownBlock = some g → g ∈ gs) → Kp gs w w') ∧ (∀ g, v'.ownBlock = some g → v.ownBlock = some g ∨ w.heap.size ≤ g) := by
  obtain ⟨c0, c1, c2, c3, f1, f2, f3⟩ := dsk_cells h
  obtain ⟨k, hk⟩ : ∃ k, k = 64 := ⟨_, rfl⟩
  have ks : ∀ w, szK_write_ok.run Try.prog w = .ok k w := fun w => by rw [hk]; exact Try.sizeOf67 w
  obtain ⟨k', hk'⟩ : ∃ k, k = 65 := ⟨_, rfl⟩
  have ks' : ∀ w, szL_write_ok.run Try.prog w = .ok k' w := fun w => by rw [hk']; exact Try.sizeOf69 w
  have hbk : (u8s b).length = k := by rw [u8s_length, hb, hk]
  have hk0 : ¬ k = 0 := by omega
  have K := hide (And.intro hk hk')
  have H := hide h
  have hn := h.ok.n
  clear h hk hk'
  go_enter Try.func14, Try.ntmps14
  go_wp2_with fail
  refine (step_ok w base d s v D H.out hl hs).mono ?_
  rintro e w1 ⟨rfl, h1, hkp⟩
  obtain ⟨d0, d1, d2, d3, e1, e2, e3⟩ := dsk_cells h1
  have kl : (loadCellsFrom ad 0 k #[]).run Try.prog w1.drew = .ok (u8s b).toArray w1.drew := by
    have := run_loadCells_list (P := Try.prog) w1.drew ad (u8s b) (fun j u hu => hsrc _ hkp.drew j u hu)
    rw [hbk] at this
    simpa [loadCells] using this
  have ka := run_arrayAt (P := Try.prog) (w := w1.drew) 67 _ _ (some ad) 64 c Try.underlying67 (Nat.le_refl _)
  have kb := wr_build w1.drew i b hb
  have kc := wr_slice w1.drew (i, b) hb
  -- the world in which the append comes up
  have d1A : (w1.drew.alloc (.cells (wrC (i, b)).toArray 69)).cell? ⟨d, 1, none⟩ = some v := (h1.hd.drew.alloc _).cell 1
  have d1B : (w1.alloc (.cells (wrC (i, b)).toArray 69)).cell? ⟨d, 1, none⟩ = some v := (h1.hd.alloc _).cell 1
  have hdA := hide (h1.hd.drew.alloc (.cells (wrC (i, b)).toArray 69))
  have hsA := hide (h1.hs.drew.alloc (.cells (wrC (i, b)).toArray 69))
  have hz : (Try.prog.info? 69).map (fun i => (i.zero, i.size, i.bytes)) = some (some (.agg (wrC (0, zero64)).toArray), 65, 72) := by kernel_rfl
  obtain ⟨ie, hie, z1, z2, z3⟩ := info_parts hz
  have hown : (w1.drew.alloc (.cells (wrC (i, b)).toArray 69)).ownsRow base 69 65 v D.queue.length (queueC D.queue) := by
    refine ⟨h1.hq.1, ?_⟩
    rcases h1.hq.2 with h0 | ⟨g, cap, cur, h2, h3, h4, h5⟩
    · exact .inl h0
    · exact .inr ⟨g, cap, cur, h2, h3, Blk.alloc (Blk.drew h4) _, h5⟩
  have hsz1 := hkp.size
  have hbase : base ≤ (w1.drew.alloc (.cells (wrC (i, b)).toArray 69)).heap.size := by
    have := h1.db
    have := h1.hd.lt
    simp; omega
  have hnews := World.news_of_block (heap_alloc_new w1.drew (.cells (wrC (i, b)).toArray 69))
  have hones : ∀ u ∈ (wrC (i, b)).toArray.toList, u.oneCell' = true := fun u hu => by
    simp only [wrC, u8s, List.mem_cons, List.mem_map] at hu
    rcases hu with rfl | ⟨a, _, rfl⟩ <;> rfl
  have hlw : (wrC (i, b)).toArray.toList.length = 1 * 65 := by simp [wrC, u8s_length, hb]
  have hzc : (Value.agg (wrC (0, zero64)).toArray).cells.size = 65 := by simp [Value.cells, wrC, u8s_length, zero64]
  have hvd : some d ≠ v.ownBlock := fun e => (h1.nq d e.symm).1 rfl
  have hdlt := hdA.out.lt
  have HE := hide (And.intro hown (And.intro hnews (And.intro hones (And.intro hlw (And.intro hie (And.intro z1 (And.intro z2 (And.intro z3 (And.intro hzc (And.intro hbase (And.intro hvd hdlt)))))))))))
  have H1 := hide h1
  have HK := hide hkp
  clear h1 hkp hsrc H c0 c1 c2 c3 f1 f2 f3 hz hie z1 z2 z3 hown hbase hnews hones hlw hzc hvd hdlt hsz1
  go_wp2_with fail
  go_region_law (
    (obtain ⟨hown, hnews, hones, hlw, hie, z1, z2, z3, hzc, hbase, hvd, hdlt⟩ := HE.out
     refine step_append_lies _ (by rfl) _ _ _ (by rfl) base 69 ie _ 65 72 Try.underlying63 hie z1 z2 z3 hzc (by decide) v D.queue.length _ (by rfl) hown _ 1 1 _ (by rfl) hlw hnews hones (by decide) (by simp only [maxLen]; omega) (by omega) hbase _ rfl ?_
     intro g cap w2 hown2 hgrow hat hlt2
     have d12 := (blk_grown hdA.out hgrow hvd).cell 1
     have f12 := (blk_grown hdA.out hgrow hvd).frozen 1
     have HX := hide (And.intro hown2 (And.intro hgrow (And.intro hat hlt2)))
     clear hown hnews hones hlw hie z1 z2 z3 hzc hbase hvd hdlt hown2 hgrow hat hlt2))
  all_goals
    go_wp2_with fail
    go_ret
    have hend := wrote_end H1.out HK.out hdA.out hsA.out HX.out hi hb hq
    exact ⟨rfl, _, hend⟩
end Go.Proofs.Ytpcaaobninnkaaa
