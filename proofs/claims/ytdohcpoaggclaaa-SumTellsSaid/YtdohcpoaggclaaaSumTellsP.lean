/- For every input the law SumTells returns true, and its arguments read afterwards as they read before: no condition. (After the guide's shell of a proof.) -/
import Derived.Test.YtdohcpoaggclaaaRows
import Derived.Test.YtdohcpoaggclaaaRd
import Derived.Test.YtdohcpoaggclaaaTellsW
import Derived.WalkKit
import Derived.ProofKit
import Derived.OpenShut
import Derived.ShutString
import Derived.ChangeOld
import Derived.Below
namespace Go.Proofs.Ytdohcpoaggclaaa.sumTells
open Go.ChangeShapes Go.WideShapes Go.ChangeAt Go.RowKit
set_option linter.unusedVariables false

theorem own : ownKnob Try.prog.godebug = none := by kernel_rfl
theorem laidOut : laidOutB Try.prog = true := by kernel_rfl

/-- The walk: whatever the arguments hold, the law returns true and writes nothing that was there. -/
theorem walk (v0 v1 v2 : Value) (w : World) (o0 : Arg Try.prog w 22 v0) (o1 : Arg Try.prog w 30 v1) (o2 : Arg Try.prog w 24 v2) :
    Calls Try.prog 5 #[v0, v1, v2] w fun e w' => e = .returned (.bool true) ∧ Below w.heap.size w w' := by
  obtain ⟨A, n, c, l, rfl, hc, _, hl⟩ := by_of_rd (n := 8) Try.underlying22 Try.underlying5 (by kernel_rfl) o0
  have hcells : Try.prog.cellsOf 3 = 1 := by kernel_rfl
  have hcells2 : Try.prog.cellsOf 30 = 2 := by kernel_rfl
  unfold Arg at o1
  rw [Try.underlying30] at o1
  obtain ⟨cs, rfl, h1⟩ := o1
  unfold Rd at h1
  rw [Try.underlying30] at h1
  obtain ⟨hlen, hi⟩ := h1
  have a0 := hi 0 (by omega)
  have a1 := hi 1 (by omega)
  rw [hcells] at a0 a1
  unfold Rd at a0 a1
  rw [Try.underlying3] at a0 a1
  obtain ⟨x, hx, _⟩ := a0
  obtain ⟨y, hy, _⟩ := a1
  obtain ⟨l0⟩ := cs
  rw [hcells2] at hlen
  match l0, hlen with
  | [c0, c1], _ =>
    simp at hx hy
    subst hx hy
    unfold Arg at o2
    rw [Try.underlying24] at o2
    obtain ⟨r, hr, hwr⟩ := o2
    simp at hr
    subst hr
    obtain ⟨r, rfl, hr⟩ := wf_bd_u32 hwr
    exact sumTells_all A n c x y r l w hl hr

set_option maxRecDepth 100000 in
theorem lifted (os : Os) (started : os.Started) (H : Type) (enc : TypeId × Value → H) :
    ReturnsInHanded {} Try.checked os 5 .any (Rows.sumTellsSpec.pre6 enc Try.prog Try.f5 Rows.sumTellsRow.domain false) (Rows.sumTellsSpec.post enc Try.prog Try.f5 false true false false) := by
  refine returnsInHanded_of_change (C := Try.checked) own started (by kernel_rfl) Try.func5
    (ChangeSpec.witness6 (enc := enc) (C := Try.checked) false ⟨#[], #[.slice none 0 0, .agg #[.int .i64 0, .int .i64 0], .int .u32 0], []⟩ 8 (by kernel_rfl) (by kernel_rfl) (by kernel_rfl) (by kernel_rfl)) ?_
  intro W base args ds gs before hval0 hW hcnd _
  have hval : ∀ (j : Nat) t v, Try.f5.params[j]? = some t → args[j]? = some v → Value.okWide Try.prog W .any base t v := hval0
  have hW' := hW
  obtain ⟨p, q, hA0, hV, rfl, hfz, hnd⟩ := hW
  have hA : DataW.TrodAll enc Try.prog W 0 (fun _ => true) true Try.f5.params.toList args.toList ds p := hA0
  rw [Try.params5] at hA hval
  obtain ⟨v0, vs0, d0, ds0, p0, q0, hargs, rfl, rfl, h0, r0⟩ := trodAll_cons hA
  obtain ⟨v1, vs1, d1, ds1, p1, q1, rfl, rfl, rfl, h1, r1⟩ := trodAll_cons r0
  obtain ⟨v2, vs2, d2, ds2, p2, q2, rfl, rfl, rfl, h2, r2⟩ := trodAll_cons r1
  obtain ⟨rfl, rfl, rfl⟩ := trodAll_nil r2
  obtain rfl : args = #[v0, v1, v2] := by cases args; simp_all
  obtain ⟨rfl, rfl⟩ := trodVars_none hV
  have k0 := h0
  have lt0 : ∀ x ∈ p0, x.block < W.heap.size := by obtain ⟨m, hm⟩ := k0; exact DataW.trod_lt m _ _ _ hm
  have o0 := arg_of (hval 0 22 v0 rfl rfl) h0
  have k1 := h1
  have lt1 : ∀ x ∈ p1, x.block < W.heap.size := by obtain ⟨m, hm⟩ := k1; exact DataW.trod_lt m _ _ _ hm
  have o1 := arg_of (hval 1 30 v1 rfl rfl) h1
  have k2 := h2
  have lt2 : ∀ x ∈ p2, x.block < W.heap.size := by obtain ⟨m, hm⟩ := k2; exact DataW.trod_lt m _ _ _ hm
  have o2 := arg_of (hval 2 24 v2 rfl rfl) h2
  clear hA0 hval0
  refine (walk v0 v1 v2 W o0 o1 o2).mono fun e W' ⟨he, bel⟩ => ?_
  subst he
  exact ⟨_, rfl, _, _, _, [], _, [], hW', trodAll_mk1 (shut_bool Try.underlying4 _), (trodAll_cons_mk (Below.trod laidOut (by kernel_rfl) (of_decide_eq_true (by kernel_rfl)) k0 bel lt0) (trodAll_cons_mk (Below.trod laidOut (by kernel_rfl) (of_decide_eq_true (by kernel_rfl)) k1 bel lt1) (trodAll_cons_mk (Below.trod laidOut (by kernel_rfl) (of_decide_eq_true (by kernel_rfl)) k2 bel lt2) trodAll_mk0))), rfl, bel.frame _, fun h => by cases h⟩

theorem over : Rows.sumTellsRow.holds Try.pinned (OpenSpec.ofChange Rows.sumTellsSpec) :=
  OpenClaim.holds_of_wide 5 Try.f5 rfl rfl rfl rfl rfl rfl rfl ⟨rfl, rfl, rfl, rfl, rfl⟩ rfl rfl rfl rfl rfl (by kernel_rfl) Try.func5 (by kernel_rfl)
    (of_decide_eq_true (by kernel_rfl)) (by unfold Func.isWrapper; first | (rw [if_pos (by decide +kernel)]; kernel_rfl) | (rw [if_neg (by decide +kernel)]; exact ⟨rfl, rfl⟩))
    (fun os started H enc _ => lifted os started H enc)

theorem proved : Rows.SumTellsSaid := over
#print axioms proved
end Go.Proofs.Ytdohcpoaggclaaa.sumTells
