/- For every input the law PackPlans returns true, and its arguments read afterwards as they read before: no condition. (After the guide's shell of a proof.) -/
import Derived.Test.YtopjkpopdffkeaaRows
import Derived.Test.YtopjkpopdffkeaaRz
import Derived.Test.YtopjkpopdffkeaaPkPlansW
import Derived.Test.YtopjkpopdffkeaaTwoArg
import Derived.WalkKit
import Derived.ProofKit
import Derived.OpenShut
import Derived.ShutString
import Derived.ChangeOld
import Derived.Below
namespace Go.Proofs.Ytopjkpopdffkeaa.packPlans
open Go.ChangeShapes Go.WideShapes Go.ChangeAt Go.RowKit
set_option linter.unusedVariables false

theorem own : ownKnob Try.prog.godebug = none := by kernel_rfl
theorem laidOut : laidOutB Try.prog = true := by kernel_rfl

set_option maxRecDepth 100000 in
/-- The walk: whatever the arguments hold, the law returns true and writes nothing that was there. -/
theorem walk (v0 v1 v2 : Value) (w : World) (o0 : ArgZ Try.prog w 22 v0) (o1 : ArgZ Try.prog w 23 v1) (o2 : ArgZ Try.prog w 24 v2) :
    Calls Try.prog 3 #[v0, v1, v2] w fun e w' => e = .returned (.bool true) ∧ Below w.heap.size w w' := by
  obtain ⟨A, n, c, fs, rfl, hc, hm, hf, hb⟩ := fis_of_rd (argz_one o0 Try.underlying22 (fun _ => by simp) (fun _ _ => by simp)).rd
  obtain ⟨A', n', c', l, rfl, hc', hm', hi, _⟩ := ints_of_rdA (m := 8) (argz_one o1 Try.underlying23 (fun _ => by simp) (fun _ _ => by simp)).rd
  obtain ⟨x, y, rfl⟩ := two_of_rdS o2.arg
  exact plans_all A A' n c n' c' fs l x y w hf hi (by omega) (by omega) (fun f h => (hb f h).2.2.2)

set_option maxRecDepth 100000 in
theorem lifted (os : Os) (started : os.Started) (H : Type) (enc : TypeId × Value → H) :
    ReturnsInHanded {} Try.checked os 3 .any (Rows.packPlansSpec.pre6 enc Try.prog Try.f3 Rows.packPlansRow.domain false) (Rows.packPlansSpec.post enc Try.prog Try.f3 false true false false) := by
  refine returnsInHanded_of_change_sized (C := Try.checked) own started (by kernel_rfl) Try.func3
    (ChangeSpec.witness6 (enc := enc) (C := Try.checked) false ⟨#[], #[.slice none 0 0, .slice none 0 0, .agg #[.int .i64 0, .int .i64 0]], []⟩ 8 (by kernel_rfl) (by kernel_rfl) (by kernel_rfl) (by kernel_rfl)) ?_
  intro W base args ds gs before hval0 hW hcnd hsz0 _
  have hval : ∀ (j : Nat) t v, Try.f3.params[j]? = some t → args[j]? = some v → Value.okWide Try.prog W .any base t v := hval0
  have hW' := hW
  obtain ⟨p, q, hA0, hV, rfl, hfz, hnd⟩ := hW
  have hA : DataW.TrodAll enc Try.prog W 0 (fun _ => true) true Try.f3.params.toList args.toList ds p := hA0
  have hsz := hsz0
  rw [Try.params3] at hA hval hsz
  clear hsz0
  obtain ⟨v0, vs0, d0, ds0, p0, q0, hargs, rfl, rfl, h0, r0⟩ := trodAll_cons hA
  obtain ⟨v1, vs1, d1, ds1, p1, q1, rfl, rfl, rfl, h1, r1⟩ := trodAll_cons r0
  obtain ⟨v2, vs2, d2, ds2, p2, q2, rfl, rfl, rfl, h2, r2⟩ := trodAll_cons r1
  obtain ⟨rfl, rfl, rfl⟩ := trodAll_nil r2
  obtain rfl : args = #[v0, v1, v2] := by cases args; simp_all
  obtain ⟨rfl, rfl⟩ := trodVars_none hV
  have k0 := h0
  have lt0 : ∀ x ∈ p0, x.block < W.heap.size := by obtain ⟨m, hm⟩ := k0; exact DataW.trod_lt m _ _ _ hm
  have o0 := argz_of (hval 0 22 v0 rfl rfl) h0 (sized_arg hsz 0 rfl rfl)
  have k1 := h1
  have lt1 : ∀ x ∈ p1, x.block < W.heap.size := by obtain ⟨m, hm⟩ := k1; exact DataW.trod_lt m _ _ _ hm
  have o1 := argz_of (hval 1 23 v1 rfl rfl) h1 (sized_arg hsz 1 rfl rfl)
  have k2 := h2
  have lt2 : ∀ x ∈ p2, x.block < W.heap.size := by obtain ⟨m, hm⟩ := k2; exact DataW.trod_lt m _ _ _ hm
  have o2 := argz_of (hval 2 24 v2 rfl rfl) h2 (sized_arg hsz 2 rfl rfl)
  clear hA0 hval0 hsz
  refine (walk v0 v1 v2 W o0 o1 o2).mono fun e W' ⟨he, bel⟩ => ?_
  subst he
  exact ⟨_, rfl, _, _, _, [], _, [], hW', trodAll_mk1 (shut_bool Try.underlying4 _), (trodAll_cons_mk (Below.trod laidOut (by kernel_rfl) (of_decide_eq_true (by kernel_rfl)) k0 bel lt0) (trodAll_cons_mk (Below.trod laidOut (by kernel_rfl) (of_decide_eq_true (by kernel_rfl)) k1 bel lt1) (trodAll_cons_mk (Below.trod laidOut (by kernel_rfl) (of_decide_eq_true (by kernel_rfl)) k2 bel lt2) trodAll_mk0))), rfl, bel.frame _, fun h => by cases h⟩

theorem over : Rows.packPlansRow.holds Try.pinned (OpenSpec.ofChange Rows.packPlansSpec) :=
  OpenClaim.holds_of_wide 3 Try.f3 rfl rfl rfl rfl rfl rfl rfl ⟨rfl, rfl, rfl, rfl, rfl⟩ rfl rfl rfl rfl rfl (by kernel_rfl) Try.func3 (by kernel_rfl)
    (of_decide_eq_true (by kernel_rfl)) (by unfold Func.isWrapper; first | (rw [if_pos (by decide +kernel)]; kernel_rfl) | (rw [if_neg (by decide +kernel)]; exact ⟨rfl, rfl⟩))
    (fun os started H enc _ => lifted os started H enc)

theorem proved : Rows.PackPlansSaid := over
#print axioms proved
end Go.Proofs.Ytopjkpopdffkeaa.packPlans
