/- For every input the law ImapVersions returns true, and its arguments read afterwards as they read before: no condition. (After the guide's shell of a proof.) -/
import Derived.Test.YtbmblofhogihdaaRows
import Derived.Test.YtbmblofhogihdaaRd
import Derived.Test.YtbmblofhogihdaaImVerW
import Derived.Test.YtbmblofhogihdaaRdMore
import Derived.WalkKit
import Derived.ProofKit
import Derived.OpenShut
import Derived.ShutString
import Derived.ChangeOld
import Derived.Below
namespace Go.Proofs.Ytbmblofhogihdaa.imapVersions
open Go.ChangeShapes Go.WideShapes Go.ChangeAt Go.RowKit
set_option linter.unusedVariables false

theorem own : ownKnob Try.prog.godebug = none := by kernel_rfl
theorem laidOut : laidOutB Try.prog = true := by kernel_rfl

/-- The walk: whatever the arguments hold, the law returns true and writes nothing that was there. -/
theorem walk (v0 v1 : Value) (w : World) (o0 : Arg Try.prog w 3 v0) (o1 : Arg Try.prog w 37 v1) :
    Calls Try.prog 5 #[v0, v1] w fun e w' => e = .returned (.bool true) ∧ Below w.heap.size w w' := by
  obtain ⟨x, rfl, _, _⟩ := int_arg Try.underlying3 o0
  obtain ⟨A, n, c, rows, rfl, hc, hm, hs, hr⟩ := slk_of_rd (n := 9) (k := 4) Try.underlying37 (by kernel_rfl) (arg_one o1 Try.underlying37 (fun _ => by simp) (fun _ _ => by simp))
  refine vers_any x A n c w (fun j hj => ?_) (by omega)
  obtain ⟨b, off, rfl, hb, hcell⟩ := hs.at (by omega) (by omega)
  have hjl : j < rows.length := by rw [hs.len]; exact hj
  have hrd := hr rows[j] (List.getElem_mem hjl)
  have hl := hs.row j hjl
  have hc1 : Try.prog.cellsOf 3 = 1 := by kernel_rfl
  have hcj := hcell j hjl
  generalize rows[j] = row at *
  match row, hl with
  | [c0, c1, c2, c3], _ =>
    obtain ⟨x0, rfl, _⟩ := rd_fld_int Try.underlying40 hrd 0 (u := 3) (o := 0) rfl hc1 Try.underlying3 rfl
    obtain ⟨x1, rfl, _⟩ := rd_fld_int Try.underlying40 hrd 1 (u := 3) (o := 1) rfl hc1 Try.underlying3 rfl
    obtain ⟨x2, rfl, _⟩ := rd_fld_int Try.underlying40 hrd 2 (u := 3) (o := 2) rfl hc1 Try.underlying3 rfl
    obtain ⟨x3, rfl, _⟩ := rd_fld_int Try.underlying40 hrd 3 (u := 3) (o := 3) rfl hc1 Try.underlying3 rfl
    exact ⟨b, off, x0, x1, x2, x3, rfl, hb, hcj 0 _ rfl, hcj 1 _ rfl, hcj 2 _ rfl, hcj 3 _ rfl⟩

set_option maxRecDepth 100000 in
theorem lifted (os : Os) (started : os.Started) (H : Type) (enc : TypeId × Value → H) :
    ReturnsInHanded {} Try.checked os 5 .any (Rows.imapVersionsSpec.pre6 enc Try.prog Try.f5 Rows.imapVersionsRow.domain false) (Rows.imapVersionsSpec.post enc Try.prog Try.f5 false true false false) := by
  refine returnsInHanded_of_change (C := Try.checked) own started (by kernel_rfl) Try.func5
    (ChangeSpec.witness6 (enc := enc) (C := Try.checked) false ⟨#[], #[.int .i64 0, .slice none 0 0], []⟩ 8 (by kernel_rfl) (by kernel_rfl) (by kernel_rfl) (by kernel_rfl)) ?_
  intro W base args ds gs before hval0 hW hcnd _
  have hval : ∀ (j : Nat) t v, Try.f5.params[j]? = some t → args[j]? = some v → Value.okWide Try.prog W .any base t v := hval0
  have hW' := hW
  obtain ⟨p, q, hA0, hV, rfl, hfz, hnd⟩ := hW
  have hA : DataW.TrodAll enc Try.prog W 0 (fun _ => true) true Try.f5.params.toList args.toList ds p := hA0
  rw [Try.params5] at hA hval
  obtain ⟨v0, vs0, d0, ds0, p0, q0, hargs, rfl, rfl, h0, r0⟩ := trodAll_cons hA
  obtain ⟨v1, vs1, d1, ds1, p1, q1, rfl, rfl, rfl, h1, r1⟩ := trodAll_cons r0
  obtain ⟨rfl, rfl, rfl⟩ := trodAll_nil r1
  obtain rfl : args = #[v0, v1] := by cases args; simp_all
  obtain ⟨rfl, rfl⟩ := trodVars_none hV
  have k0 := h0
  have lt0 : ∀ x ∈ p0, x.block < W.heap.size := by obtain ⟨m, hm⟩ := k0; exact DataW.trod_lt m _ _ _ hm
  have o0 := arg_of (hval 0 3 v0 rfl rfl) h0
  have k1 := h1
  have lt1 : ∀ x ∈ p1, x.block < W.heap.size := by obtain ⟨m, hm⟩ := k1; exact DataW.trod_lt m _ _ _ hm
  have o1 := arg_of (hval 1 37 v1 rfl rfl) h1
  clear hA0 hval0
  refine (walk v0 v1 W o0 o1).mono fun e W' ⟨he, bel⟩ => ?_
  subst he
  exact ⟨_, rfl, _, _, _, [], _, [], hW', trodAll_mk1 (shut_bool Try.underlying4 _), (trodAll_cons_mk (Below.trod laidOut (by kernel_rfl) (of_decide_eq_true (by kernel_rfl)) k0 bel lt0) (trodAll_cons_mk (Below.trod laidOut (by kernel_rfl) (of_decide_eq_true (by kernel_rfl)) k1 bel lt1) trodAll_mk0)), rfl, bel.frame _, fun h => by cases h⟩

theorem over : Rows.imapVersionsRow.holds Try.pinned (OpenSpec.ofChange Rows.imapVersionsSpec) :=
  OpenClaim.holds_of_wide 5 Try.f5 rfl rfl rfl rfl rfl rfl rfl ⟨rfl, rfl, rfl, rfl, rfl⟩ rfl rfl rfl rfl rfl (by kernel_rfl) Try.func5 (by kernel_rfl)
    (of_decide_eq_true (by kernel_rfl)) (by unfold Func.isWrapper; first | (rw [if_pos (by decide +kernel)]; kernel_rfl) | (rw [if_neg (by decide +kernel)]; exact ⟨rfl, rfl⟩))
    (fun os started H enc _ => lifted os started H enc)

theorem proved : Rows.ImapVersionsSaid := over
#print axioms proved
end Go.Proofs.Ytbmblofhogihdaa.imapVersions
