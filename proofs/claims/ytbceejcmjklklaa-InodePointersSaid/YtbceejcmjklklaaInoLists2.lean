/- == of two lists of sixteen pointers; such a list as an argument; InodeLists, the whole. -/
import Derived.Test.YtbceejcmjklklaaInoListsW
import Derived.Test.YtbceejcmjklklaaRdMore
namespace Go.Proofs.Ytbceejcmjklklaa
open Go.RowKit

set_option maxRecDepth 100000 in
theorem ptr16_lits (p0 p1 p2 p3 p4 p5 p6 p7 p8 p9 p10 p11 p12 p13 p14 p15 : Nat) (b0 : p0 < 4294967296) (b1 : p1 < 4294967296) (b2 : p2 < 4294967296) (b3 : p3 < 4294967296) (b4 : p4 < 4294967296) (b5 : p5 < 4294967296) (b6 : p6 < 4294967296) (b7 : p7 < 4294967296) (b8 : p8 < 4294967296) (b9 : p9 < 4294967296) (b10 : p10 < 4294967296) (b11 : p11 < 4294967296) (b12 : p12 < 4294967296) (b13 : p13 < 4294967296) (b14 : p14 < 4294967296) (b15 : p15 < 4294967296) : Try.prog.keyLits 10 34 [.int .u32 (p0 : Int), .int .u32 (p1 : Int), .int .u32 (p2 : Int), .int .u32 (p3 : Int), .int .u32 (p4 : Int), .int .u32 (p5 : Int), .int .u32 (p6 : Int), .int .u32 (p7 : Int), .int .u32 (p8 : Int), .int .u32 (p9 : Int), .int .u32 (p10 : Int), .int .u32 (p11 : Int), .int .u32 (p12 : Int), .int .u32 (p13 : Int), .int .u32 (p14 : Int), .int .u32 (p15 : Int)] = some [.int .u32 (p0 : Int), .int .u32 (p1 : Int), .int .u32 (p2 : Int), .int .u32 (p3 : Int), .int .u32 (p4 : Int), .int .u32 (p5 : Int), .int .u32 (p6 : Int), .int .u32 (p7 : Int), .int .u32 (p8 : Int), .int .u32 (p9 : Int), .int .u32 (p10 : Int), .int .u32 (p11 : Int), .int .u32 (p12 : Int), .int .u32 (p13 : Int), .int .u32 (p14 : Int), .int .u32 (p15 : Int)] := by
  have x0 : (Lit.int .u32 (p0 : Int)).wf = true := by simp [Lit.wf, IntKind.min, IntKind.max, IntKind.signed, IntKind.bits]; omega
  have x1 : (Lit.int .u32 (p1 : Int)).wf = true := by simp [Lit.wf, IntKind.min, IntKind.max, IntKind.signed, IntKind.bits]; omega
  have x2 : (Lit.int .u32 (p2 : Int)).wf = true := by simp [Lit.wf, IntKind.min, IntKind.max, IntKind.signed, IntKind.bits]; omega
  have x3 : (Lit.int .u32 (p3 : Int)).wf = true := by simp [Lit.wf, IntKind.min, IntKind.max, IntKind.signed, IntKind.bits]; omega
  have x4 : (Lit.int .u32 (p4 : Int)).wf = true := by simp [Lit.wf, IntKind.min, IntKind.max, IntKind.signed, IntKind.bits]; omega
  have x5 : (Lit.int .u32 (p5 : Int)).wf = true := by simp [Lit.wf, IntKind.min, IntKind.max, IntKind.signed, IntKind.bits]; omega
  have x6 : (Lit.int .u32 (p6 : Int)).wf = true := by simp [Lit.wf, IntKind.min, IntKind.max, IntKind.signed, IntKind.bits]; omega
  have x7 : (Lit.int .u32 (p7 : Int)).wf = true := by simp [Lit.wf, IntKind.min, IntKind.max, IntKind.signed, IntKind.bits]; omega
  have x8 : (Lit.int .u32 (p8 : Int)).wf = true := by simp [Lit.wf, IntKind.min, IntKind.max, IntKind.signed, IntKind.bits]; omega
  have x9 : (Lit.int .u32 (p9 : Int)).wf = true := by simp [Lit.wf, IntKind.min, IntKind.max, IntKind.signed, IntKind.bits]; omega
  have x10 : (Lit.int .u32 (p10 : Int)).wf = true := by simp [Lit.wf, IntKind.min, IntKind.max, IntKind.signed, IntKind.bits]; omega
  have x11 : (Lit.int .u32 (p11 : Int)).wf = true := by simp [Lit.wf, IntKind.min, IntKind.max, IntKind.signed, IntKind.bits]; omega
  have x12 : (Lit.int .u32 (p12 : Int)).wf = true := by simp [Lit.wf, IntKind.min, IntKind.max, IntKind.signed, IntKind.bits]; omega
  have x13 : (Lit.int .u32 (p13 : Int)).wf = true := by simp [Lit.wf, IntKind.min, IntKind.max, IntKind.signed, IntKind.bits]; omega
  have x14 : (Lit.int .u32 (p14 : Int)).wf = true := by simp [Lit.wf, IntKind.min, IntKind.max, IntKind.signed, IntKind.bits]; omega
  have x15 : (Lit.int .u32 (p15 : Int)).wf = true := by simp [Lit.wf, IntKind.min, IntKind.max, IntKind.signed, IntKind.bits]; omega
  have hc : Try.prog.cellsOf 25 = 1 := by kernel_rfl
  have hc9 : Try.prog.cellsOf 34 = 16 := by kernel_rfl
  unfold Program.keyLits
  rw [Try.underlying34]
  simp only [hc, hc9, List.length_cons, List.length_nil, List.range_succ, List.range_zero, List.nil_append, List.cons_append, List.mapM_cons, List.mapM_nil, Nat.mul_one, List.drop_succ_cons, List.drop_zero, List.take_succ_cons, List.take_zero]
  simp only [keyLits_one_int Try.underlying25, x0, x1, x2, x3, x4, x5, x6, x7, x8, x9, x10, x11, x12, x13, x14, x15]
  simp
theorem arr_key : Try.prog.keyTypeAt 100 34 = true := by kernel_rfl
def litU (qs : List Nat) : List Lit := qs.map fun (p : Nat) => Lit.int .u32 (p : Int)
theorem litU_inj : ∀ {a b : List Nat}, litU a = litU b → a = b
  | [], [], _ => rfl
  | [], _ :: _, h => by simp [litU] at h
  | _ :: _, [], h => by simp [litU] at h
  | x :: a, y :: b, h => by
    simp only [litU, List.map_cons, List.cons.injEq, Lit.int.injEq, true_and] at h
    rw [litU_inj (a := a) (b := b) h.2, show x = y by omega]
theorem arr_lits (qs : List Nat) (h : qs.length = 16) (hb : ∀ p ∈ qs, p < 4294967296) : Try.prog.keyLits 10 34 (u32s qs) = some (litU qs) := by
  match qs, h with
  | [p0, p1, p2, p3, p4, p5, p6, p7, p8, p9, p10, p11, p12, p13, p14, p15], _ => exact ptr16_lits p0 p1 p2 p3 p4 p5 p6 p7 p8 p9 p10 p11 p12 p13 p14 p15 (hb _ (by simp)) (hb _ (by simp)) (hb _ (by simp)) (hb _ (by simp)) (hb _ (by simp)) (hb _ (by simp)) (hb _ (by simp)) (hb _ (by simp)) (hb _ (by simp)) (hb _ (by simp)) (hb _ (by simp)) (hb _ (by simp)) (hb _ (by simp)) (hb _ (by simp)) (hb _ (by simp)) (hb _ (by simp))
theorem formed16 (p0 p1 p2 p3 p4 p5 p6 p7 p8 p9 p10 p11 p12 p13 p14 p15 : Nat) : (Value.agg (u32s [p0, p1, p2, p3, p4, p5, p6, p7, p8, p9, p10, p11, p12, p13, p14, p15]).toArray).formed Try.prog 34 = true := by kernel_rfl
theorem arr_formed (qs : List Nat) (h : qs.length = 16) : (Value.agg (u32s qs).toArray).formed Try.prog 34 = true := by
  match qs, h with
  | [p0, p1, p2, p3, p4, p5, p6, p7, p8, p9, p10, p11, p12, p13, p14, p15], _ => exact formed16 p0 p1 p2 p3 p4 p5 p6 p7 p8 p9 p10 p11 p12 p13 p14 p15
theorem arr_same (qs : List Nat) (h : qs.length = 16) (hb : ∀ p ∈ qs, p < 4294967296) (w : World) : (Op.equalIn 10000 34 (.agg (u32s qs).toArray) (.agg (u32s qs).toArray)).run Try.prog w = .ok true w :=
  eql_yes arr_key (arr_formed qs h) (arr_formed qs h) (arr_lits qs h hb) (arr_lits qs h hb) w
theorem arr_other (qs rs : List Nat) (h : qs.length = 16) (h' : rs.length = 16) (hb : ∀ p ∈ qs, p < 4294967296) (hb' : ∀ p ∈ rs, p < 4294967296) (hn : qs ≠ rs) (w : World) : (Op.equalIn 10000 34 (.agg (u32s qs).toArray) (.agg (u32s rs).toArray)).run Try.prog w = .ok false w :=
  eql_no arr_key (arr_formed qs h) (arr_formed rs h') (arr_lits qs h hb) (arr_lits rs h' hb') (fun e => hn (litU_inj e)) w
theorem arr_arg {w : World} {v : Value} (h : Arg Try.prog w 34 v) : ∃ qs : List Nat, qs.length = 16 ∧ (∀ p ∈ qs, p < 4294967296) ∧ v = .agg (u32s qs).toArray := by
  have hcu : Try.prog.cellsOf 25 = 1 := by kernel_rfl
  have hc16 : Try.prog.cellsOf 34 = 16 := by kernel_rfl
  obtain ⟨⟨l⟩, rfl, hh⟩ := arg_agg h (.inr ⟨_, _, Try.underlying34⟩)
  have hl := (rd_array Try.underlying34 hh).1
  rw [hc16] at hl
  simp only [] at hl
  obtain ⟨rs, hrl, hrs⟩ := list_of (Q := fun i (p : Nat) => l[i]? = some (.int .u32 (p : Int)) ∧ p < 4294967296) 16 (fun i hi => by
    have hli : l[i]? = some (l[i]'(by rw [hl]; exact hi)) := List.getElem?_eq_getElem _
    obtain ⟨m, hm, hw⟩ := rd_arr_int Try.underlying34 hh hcu Try.underlying25 i hi hli
    obtain ⟨p, rfl, hp⟩ := wf_bd_u32 hw
    exact ⟨p, by rw [hli, hm], hp⟩)
  refine ⟨rs, hrl, fun p hp => ?_, ?_⟩
  · obtain ⟨i, hi, rfl⟩ := List.getElem_of_mem hp
    exact (hrs i hi).2
  · congr 2
    apply List.ext_getElem?
    intro i
    rcases Nat.lt_or_ge i 16 with hi | hi
    · rw [(hrs i (by omega)).1, u32s_get, List.getElem?_eq_getElem (by omega)]; rfl
    · rw [List.getElem?_eq_none (by omega), List.getElem?_eq_none (by rw [u32s_length]; omega)]
theorem lists_all (ps qs : List Nat) (h1 : ps.length = 16) (h2 : qs.length = 16) (b1 : ∀ p ∈ ps, p < 4294967296) (b2 : ∀ p ∈ qs, p < 4294967296) (w : World) :
    Calls Try.prog 5 #[.agg (u32s ps).toArray, .agg (u32s qs).toArray] w fun e w' => e = .returned (.bool true) ∧ Below w.heap.size w w' := by
  by_cases he : ps = qs
  · subst he
    exact lists_any ps ps h1 h1 b1 b1 w true (fun w => arr_same ps h1 b1 w) (txt_eq _)
  · exact lists_any ps qs h1 h2 b1 b2 w false (fun w => arr_other ps qs h1 h2 b1 b2 he w) (txt_ne (fun e => he (fours_inj b1 b2 (by rw [h1, h2]) e)))
end Go.Proofs.Ytbceejcmjklklaa
