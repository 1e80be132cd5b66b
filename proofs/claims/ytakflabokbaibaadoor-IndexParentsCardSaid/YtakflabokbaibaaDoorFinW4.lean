/- The walk over the reference's Find. -/
import Derived.Test.YtakflabokbaibaaDoorManW
set_option linter.unusedVariables false
set_option linter.unusedSimpArgs false
namespace Go.Proofs.YtakflabokbaibaaDoor
open Go.RowKit
attribute [local go_sem ↓] Go.wp_at_zero Go.wp_at_succ

/-- A boxed struct and a temporary given back. -/
theorem results_ct {P : Program} {fn : Func} {p q : Tmp} {ty : TypeId} (h : fn.results = #[.cell p ty, .tmp q]) (tmps : Array Value) (w : World) (g : Nat) (t : TypeId) (cs : Array Value) (fr : Nat × Nat) (d : TypeDesc)
    (hp : tmps.getD p undef = .pointer (some ⟨g, 0, none⟩)) (hg : w.heap[g]? = some (.cells cs t fr))
    (hu : P.underlying ty = some d) (hd : (match d with | .struct _ | .array _ _ => true | _ => false) = true) (hi : (P.info? ty).map (·.size) = some cs.size) :
    (results fn tmps).run P w = .ok (.tuple #[.agg cs, tmps.getD q undef]) w := by
  have hp' : tmps[p]?.getD undef = .pointer (some ⟨g, 0, none⟩) := by simpa using hp
  simp [results, h, hp', asAddr, run_loadVar_row w g t ty cs fr d hg hu hd hi]
theorem ret_meta {K : Ending → World → Prop} {tmps : Array Value} {w : World} {g : Nat} {x0 x1 x2 x3 x4 x5 v : Value} (hp : tmps.getD 2 undef = .pointer (some ⟨g, 0, none⟩)) (hq : tmps.getD 3 undef = v) (hB : Blk w g 41 #[x0, x1, x2, x3, x4, x5])
    (hK : K (.returned (.tuple #[.agg #[x0, x1, x2, x3, x4, x5], v])) w) : bodyPost Tryd.prog Tryd.f16 K .ret ⟨tmps, []⟩ w :=
  bodyPost_ret (results_ct rfl tmps w g _ _ (0, 0) _ hp hB Tryd.underlying41 rfl (by kernel_rfl)) rfl (by rw [hq]; exact hK)
/-- What Find answers. -/
def findV : Option MetaL → World → Ending → Prop
  | none, _, e => e = .returned (.tuple #[.agg #[.int .i64 0, .int .i64 0, .int .i64 0, .int .i64 0, .slice none 0 0, .slice none 0 0], .bool false])
  | some m, w, e => ∃ A1 c1 A2 c2, e = .returned (.tuple #[.agg (metaV m A1 c1 A2 c2).toArray, .bool true]) ∧ RdI w A1 m.p.metas.length m.p.metas ∧ RdI w A2 m.p.slots.length (natsI m.p.slots)
set_option maxHeartbeats 1000000 in
set_option maxRecDepth 100000 in
theorem findR_few (n : Int) (hn : I64 n) (h06 : 0 ≤ n ∧ n < 6) (w : World) : Calls Tryd.prog 16 #[.int .i64 n] w fun e w' => findV (findR n) w' e ∧ Below w.heap.size w w' := by
  have HN := hide hn
  clear hn
  · have HR : Hid (findR n = some ⟨n, 0, n.toNat, ⟨n.toNat, [], []⟩⟩) := hide (by unfold findR; rw [if_pos h06])
    obtain ⟨k, hk⟩ : ∃ k : Nat, n = (k : Int) := ⟨n.toNat, by omega⟩
    subst hk
    have d1 : (0 : Int) ≤ (k : Int) := by omega
    have d2 : (k : Int) < 6 := h06.2
    clear h06 HN
    go_enter Tryd.func16, Tryd.ntmps16
    go_wp2_with fail
    refine ret_meta rfl rfl (Blk.new w _ _) ?_
    refine ⟨?_, (Below.refl _ _).alloc (Nat.le_refl _) _⟩
    rw [HR.out]
    exact ⟨none, 0, none, 0, rfl, rdI_nil, rdI_nil⟩
end Go.Proofs.YtakflabokbaibaaDoor
