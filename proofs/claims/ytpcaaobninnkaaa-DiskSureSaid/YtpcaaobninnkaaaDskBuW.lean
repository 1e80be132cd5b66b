/- A write of the queue as it is built, and the row of one such. -/
import Derived.Test.YtpcaaobninnkaaaDskWrW
import Derived.Laws.Cover3
import Derived.Laws.Tables
import Derived.Great.BuildSlice
import Derived.Great.FillDense
namespace Go.Proofs.Ytpcaaobninnkaaa
open Go.RowKit

theorem fold_set : ∀ (vs : List Value) (i0 o : Nat) (cs : Array Value), o + i0 + vs.length ≤ cs.size → ((vs.zipIdx i0).foldl (fun cs x => cs.setIfInBounds (o + x.2) x.1) cs).toList = cs.toList.take (o + i0) ++ vs ++ cs.toList.drop (o + i0 + vs.length)
  | [], i0, o, cs, _ => by simp
  | v :: r, i0, o, cs, h => by
    have h' : o + i0 + (r.length + 1) ≤ cs.size := h
    rw [List.zipIdx_cons, List.foldl_cons, fold_set r (i0 + 1) o _ (by simp; omega), Array.toList_setIfInBounds]
    have := setCells_list v r cs.toList (o + i0) (by simp; omega)
    simpa [Nat.add_assoc] using this
theorem built_at {P : Program} {t : TypeId} {fs : Array Field} {z : Array Value} {places : List (Nat × Nat)} (hu : P.underlying t = some (.struct fs)) (hz : (P.info? t).map (·.zero) = some (some (.agg z))) (hp : fs.toList.mapM (fun f => (P.info? f.type).map fun i => (f.offset, i.size)) = some places) (parts : List (Nat × Value)) :
    P.built t parts = Instr.fill (places.toArray[·]?) z parts := by
  unfold Program.built
  cases hi : P.info? t with
  | none => simp [hi] at hz
  | some it =>
    simp only [hi, Option.map_some, Option.some.injEq] at hz
    simp only [hu, hz, hp]
    rfl
theorem fill_step {place : Nat → Option (Nat × Nat)} {cells : Array Value} {i off : Nat} {v : Value} {rest : List (Nat × Value)} (hp : place i = some (off, v.cells.size)) (hs : off + v.cells.size ≤ cells.size) :
    Instr.fill place cells ((i, v) :: rest) = Instr.fill place (v.cells.toList.zipIdx.foldl (fun cs x => cs.setIfInBounds (off + x.2) x.1) cells) rest := by
  conv => lhs; unfold Instr.fill
  simp only [hp]
  rw [if_neg (by simp; omega), ← Array.foldl_toList, Array.toList_zipIdx]
theorem wr_built (i : Nat) (b : List UInt8) (hb : b.length = 64) : Try.prog.built 69 [(0, .int .i64 (i : Int)), (1, .agg (u8s b).toArray)] = some (wrC (i, b)).toArray := by
  rw [built_at (z := (wrC (0, zero64)).toArray) (places := [(0, 1), (1, 64)]) Try.underlying69 (by kernel_rfl) (by kernel_rfl)]
  have hl : (u8s b).length = 64 := by rw [u8s_length, hb]
  have hz : zero64.length = 64 := by unfold zero64; rw [List.length_replicate]
  have hf := fold_set (u8s b) 0 1 ((Value.int .i64 (i : Int)) :: u8s zero64).toArray (by simp [u8s_length, hz, hb])
  rw [fill_step (off := 0) (by rfl) (by simp [wrC, Value.cells])]
  rw [show (Value.int IntKind.i64 (i : Int)).cells.toList.zipIdx.foldl (fun cs x => cs.setIfInBounds (0 + x.2) x.1) (wrC (0, zero64)).toArray = ((Value.int .i64 (i : Int)) :: u8s zero64).toArray from by simp [wrC, Value.cells]]
  rw [fill_step (off := 1) (by simp [Value.cells, u8s_length, hb]) (by simp [Value.cells, u8s_length, hb, hz])]
  unfold Instr.fill
  congr 1
  apply Array.toList_inj.1
  refine hf.trans ?_
  simp [wrC, u8s_length, hz, hb]
/-- Builds, kept whole in a walk. -/
def buildK (t : TypeId) (ps : Array (Nat × Value)) : Sem Value := Instr.build t ps
theorem buildK_keep (t : TypeId) (ps : Array (Nat × Value)) : Instr.build t ps = buildK t ps := rfl
def buildSliceK (t : TypeId) (n : Nat) (ps : Array (Nat × Value)) : Sem Value := Instr.buildSlice t n ps
theorem buildSliceK_keep (t : TypeId) (n : Nat) (ps : Array (Nat × Value)) : Instr.buildSlice t n ps = buildSliceK t n ps := rfl
theorem wr_build (w : World) (i : Nat) (b : List UInt8) (hb : b.length = 64) : (buildK 69 #[(0, .int .i64 (i : Int)), (1, .agg (u8s b).toArray)]).run Try.prog w = .ok (.agg (wrC (i, b)).toArray) w :=
  run_build w 69 _ _ (wr_built i b hb)
theorem wr_slice (w : World) (x : Nat × List UInt8) (hx : x.2.length = 64) : (buildSliceK 63 1 #[(0, .agg (wrC x).toArray)]).run Try.prog w = .ok (.slice (some ⟨w.heap.size, 0, none⟩) 1 1) (w.alloc (.cells (wrC x).toArray 69)) := by
  unfold buildSliceK
  have hz : (Try.prog.info? 69).map (fun i => (i.zero, i.size, i.bytes)) = some (some (.agg (wrC (0, zero64)).toArray), 65, 72) := by kernel_rfl
  obtain ⟨ie, hi, h1, h2, h3⟩ := info_parts hz
  have hw : (wrC x).length = 65 := by rw [wrC, List.length_cons, u8s_length, hx]
  have hfill := Great.fill_whole (s := 65) (by omega) [Value.agg (wrC x).toArray] ((Array.range (1 * ie.size)).map ((Value.agg (wrC (0, zero64)).toArray).cells[· % (Value.agg (wrC (0, zero64)).toArray).cells.size]!)) (fun v hv => by
    rw [List.mem_singleton] at hv
    subst hv
    simp [Value.cells, hw]) (by simp [h2])
  refine run_buildSlice w 63 69 1 _ (wrC x).toArray ie _ Try.underlying63 hi h1 (by rw [h2]; omega) (by rw [h2]; omega) ?_
  rw [h2] at hfill ⊢
  simpa [Value.cells] using hfill
end Go.Proofs.Ytpcaaobninnkaaa
