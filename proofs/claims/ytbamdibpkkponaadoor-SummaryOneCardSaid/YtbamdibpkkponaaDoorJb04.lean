import Derived.Test.YtbamdibpkkponaaDoorJb02
import Derived.Test.YtbamdibpkkponaaDoorJb03
import Derived.Test.YtbamdibpkkponaaDoorProg
import Derived.Test.YtbamdibpkkponaaDoorJb01
import Derived.Deep.QuietTactic
import Derived.BigQuiet
set_option linter.unusedVariables false
set_option linter.unusedSimpArgs false
/- The walks over summary's within, file, Check. (Printed by gen_smck.py.) -/
namespace Go.Proofs.YtbamdibpkkponaaDoor
open Go.RowKit
attribute [local go_sem ↓] Go.wp_at_zero Go.wp_at_succ

theorem within_any (n lo hi : Int) (w : World) : Calls Tryd.prog 27 #[.int .i64 n, .int .i64 lo, .int .i64 hi] w fun e w' => e = .returned (.bool (decide (lo ≤ n ∧ n ≤ hi))) ∧ Below w.heap.size w w' := by
  by_cases h1 : lo ≤ n
  · by_cases h2 : n ≤ hi
    · rw [decide_eq_true (show lo ≤ n ∧ n ≤ hi from ⟨h1, h2⟩)]
      go_enter Tryd.func27, Tryd.ntmps27
      go_wp2_with fail
      go_ret
      exact ⟨rfl, Below.refl _ _⟩
    · rw [decide_eq_false (show ¬ (lo ≤ n ∧ n ≤ hi) from fun h => h2 h.2)]
      go_enter Tryd.func27, Tryd.ntmps27
      go_wp2_with fail
      go_ret
      exact ⟨rfl, Below.refl _ _⟩
  · rw [decide_eq_false (show ¬ (lo ≤ n ∧ n ≤ hi) from fun h => h1 h.1)]
    go_enter Tryd.func27, Tryd.ntmps27
    go_wp2_with fail
    go_ret
    exact ⟨rfl, Below.refl _ _⟩
theorem within_yes {n lo hi : Int} (h : lo ≤ n ∧ n ≤ hi) (w : World) : Calls Tryd.prog 27 #[.int .i64 n, .int .i64 lo, .int .i64 hi] w fun e w' => e = .returned (.bool true) ∧ Below w.heap.size w w' := by
  have := within_any n lo hi w
  rwa [decide_eq_true h] at this
theorem within_no {n lo hi : Int} (h : ¬ (lo ≤ n ∧ n ≤ hi)) (w : World) : Calls Tryd.prog 27 #[.int .i64 n, .int .i64 lo, .int .i64 hi] w fun e w' => e = .returned (.bool false) ∧ Below w.heap.size w w' := by
  have := within_any n lo hi w
  rwa [decide_eq_false h] at this
/-- It is no block's number. -/
def badN (n : Int) : Bool := (findP n).isNone
theorem bad_any (n : Int) (hn : I64 n) (w : World) (sp : SpanAt w) : Calls Tryd.prog 38 #[.int .i64 n] w fun e w' => e = .returned (.bool (badN n)) ∧ Below w.heap.size w w' := by
  rcases hF : findP n with _ | ⟨l, f⟩
  · have C := hide (level_no n hn hF w sp)
    have hb : badN n = true := by unfold badN; rw [hF]; rfl
    rw [hb]
    clear hF hn sp hb
    go_enter Tryd.func38, Tryd.ntmps38
    go_wp2_with fail
    refine C.out.mono ?_
    rintro e w' ⟨rfl, hb⟩
    have B := hide hb
    clear hb
    go_wp2_with fail
    go_ret
    exact ⟨rfl, B.out⟩
  · have C := hide (level_yes n hn hF w sp)
    have hb : badN n = false := by unfold badN; rw [hF]; rfl
    rw [hb]
    clear hF hn sp hb
    go_enter Tryd.func38, Tryd.ntmps38
    go_wp2_with fail
    refine C.out.mono ?_
    rintro e w' ⟨rfl, hb⟩
    have B := hide hb
    clear hb
    go_wp2_with fail
    go_ret
    exact ⟨rfl, B.out⟩
theorem entersK {K : FuncId} {fn : Func} (hf : Tryd.prog.funcs[K]? = some fn) (hn : (fn.name == "runtime.NumGoroutine") = false) (hb : fn.body.isSome = true) : ∀ args w', (callFunc K args).run Tryd.prog w' = .ok (.enter K args) w' := by
  intro args w'
  have hne : fn.name ≠ "runtime.NumGoroutine" := fun e => by rw [e] at hn; simp at hn
  obtain ⟨c, hb⟩ := Option.isSome_iff_exists.1 hb
  simp [callFunc, hf, hne, hb]
theorem bad_enters : ∀ args w', (callFunc 38 args).run Tryd.prog w' = .ok (.enter 38 args) w' :=
  entersK (fn := Tryd.f38) (by kernel_rfl) (by kernel_rfl) (by kernel_rfl)
set_option maxRecDepth 100000 in
set_option maxHeartbeats 1000000 in
theorem idxf_any (A : Option Addr) (n c lo base : Nat) (l : List Int) (w : World) (sp : SpanAt w) (h : IntsAt lo base w A n l) (hn : n ≤ 1000000) (hl : ∀ x ∈ l, I64 x) :
    Calls Tryd.prog 43 #[.slice A n c, .func (.func 38) #[] #[]] w fun e w' => (∃ r : Int, e = .returned (.int .i64 r) ∧ (0 ≤ r ↔ l.any badN = true)) ∧ Below w.heap.size w w' := by
  have H := hide h
  have HL := hide hl
  have HLN := hide (IntsAt.len h)
  have SP := hide sp
  have hen := bad_enters
  clear h hl sp
  go_enter Tryd.func43, Tryd.ntmps43
  go_wp2_with fail
  go_loopw [8] (fun y wr => ∃ j : Nat, j ≤ n ∧ y = .int .i64 (j : Int) ∧ (l.take j).any badN = false ∧ Below w.heap.size w wr) (fun y _ => n - (intOf y).toNat)
  case atStart => exact ⟨0, Nat.zero_le _, rfl, rfl, Below.refl _ _⟩
  case round =>
    obtain ⟨j, hj, rfl, hno, hb⟩ := hrel
    have HNO := hide hno
    have HB := hide hb
    clear hno hb
    by_cases hlt : j < n
    · obtain ⟨zn, hzn⟩ : ∃ x, l[j]? = some x := ⟨_, List.getElem?_eq_getElem (by rw [HLN.out]; exact hlt)⟩
      obtain ⟨b, off, hA, -, hc⟩ := RwAt.at (RwAt.below H.out HB.out) (by omega) (by decide)
      have z0 := hc j (.int .i64 zn) (by rw [intC, List.getElem?_map, hzn]; rfl)
      subst hA
      have HZN := hide hzn
      have hz64 := hide (HL.out zn (List.mem_of_getElem? hzn))
      have hjs : (j : Int) < (n : Int) := by omega
      have hj64 : IntKind.i64.wrap (j : Int) = (j : Int) := by rw [IntKind.wrap_i64]; omega
      clear hzn hc
      go_wp2_with fail
      refine (bad_any zn hz64.out wr (SP.out.bel HB.out)).mono ?_
      rintro e w5 ⟨rfl, hb⟩
      have B5 := hide (HB.out.trans (hb.mono HB.out.size))
      clear hb
      cases hbz : badN zn with
      | true =>
        have HBZ := hide hbz
        clear hbz
        go_wp2_with fail
        go_ret
        exact ⟨⟨_, rfl, ⟨fun _ => List.any_eq_true.2 ⟨zn, List.mem_of_getElem? HZN.out, HBZ.out⟩, fun _ => Int.natCast_nonneg j⟩⟩, B5.out⟩
      | false =>
        have HBZ := hide hbz
        clear hbz
        go_wp2_with fail
        go_roundw
        case rel => exact ⟨j + 1, by omega, by go_num, by rw [List.take_add_one, HZN.out, List.any_append, HNO.out]; simp [HBZ.out], B5.out⟩
        case measure => simp [intOf]; omega
    · have hjn : j = n := by omega
      have hno : l.any badN = false := by
        have := HNO.out
        rwa [hjn, ← HLN.out, List.take_length] at this
      have HN := hide hno
      clear hno hjn
      go_wp2_with fail
      go_ret
      exact ⟨⟨_, rfl, ⟨fun h => absurd h (by decide), fun h => by rw [HN.out] at h; cases h⟩⟩, HB.out⟩
theorem conf_any (A : Option Addr) (n c lo base : Nat) (l : List Int) (w : World) (sp : SpanAt w) (h : IntsAt lo base w A n l) (hn : n ≤ 1000000) (hl : ∀ x ∈ l, I64 x) :
    Calls Tryd.prog 40 #[.slice A n c, .func (.func 38) #[] #[]] w fun e w' => e = .returned (.bool (l.any badN)) ∧ Below w.heap.size w w' := by
  have C := hide (idxf_any A n c lo base l w sp h hn hl)
  clear h hl sp
  go_enter Tryd.func40, Tryd.ntmps40
  go_wp2_with fail
  refine C.out.mono ?_
  rintro e w' ⟨⟨r, rfl, hr⟩, hb⟩
  have B := hide hb
  have HR := hide hr
  clear hb hr
  by_cases h0 : 0 ≤ r
  · have hv := hide (HR.out.1 h0)
    go_wp2_with fail
    go_ret
    exact ⟨by rw [hv.out]; rfl, B.out⟩
  · have hv : l.any badN = false := by
      cases h : l.any badN with
      | true => exact absurd (HR.out.2 h) h0
      | false => rfl
    have hv := hide hv
    go_wp2_with fail
    go_ret
    exact ⟨by rw [hv.out]; exact congrArg (fun b => Ending.returned (Value.bool b)) (decide_eq_false (by omega)), B.out⟩
def gdF (f : FI) : Prop := (1 ≤ f.ino ∧ f.ino ≤ 200) ∧ (0 ≤ f.ver ∧ f.ver ≤ 65535) ∧ (1 ≤ (f.ls.length : Int) ∧ (f.ls.length : Int) ≤ 30) ∧ f.ls.any badN = false
instance (f : FI) : Decidable (gdF f) := by unfold gdF; infer_instance
set_option maxRecDepth 100000 in
set_option maxHeartbeats 1000000 in
theorem file_any (f : FI) (A : Option Addr) (c lo base : Nat) (w : World) (sp : SpanAt w) (h : IntsAt lo base w A f.ls.length f.ls) (hn : f.ls.length ≤ 1000000) (hl : ∀ x ∈ f.ls, I64 x) :
    Calls Tryd.prog 28 #[.agg #[.int .i64 f.ino, .int .i64 f.ver, .slice A f.ls.length c]] w fun e w' => e = .returned (.bool (decide (gdF f))) ∧ Below w.heap.size w w' := by
  have HNO := hide (show ¬ gdF f → decide (gdF f) = false from fun h => decide_eq_false h)
  have HYES := hide (show gdF f → decide (gdF f) = true from fun h => decide_eq_true h)
  have H := hide h
  have HL := hide hl
  have SP := hide sp
  obtain ⟨m, hm⟩ : ∃ x, x = f.ls.length := ⟨_, rfl⟩
  rw [← hm] at H hn ⊢
  have HM := hide hm
  clear h hl sp hm
  obtain ⟨w1, hw1⟩ : ∃ W, W = w.alloc (.cells #[.int .i64 f.ino, .int .i64 f.ver, .slice A m c] 46) := ⟨_, rfl⟩
  have K1 : Hid (Blk w1 w.heap.size 46 #[.int .i64 f.ino, .int .i64 f.ver, .slice A m c]) := hide (by rw [hw1]; exact Blk.new _ _ _)
  have B1 : Hid (Below w.heap.size w w1) := hide (by rw [hw1]; exact (Below.refl _ _).alloc (Nat.le_refl _) _)
  have CC := hide (fun (W : World) (hb : Below w1.heap.size w1 W) => show W.cell? ⟨w.heap.size, 0, none⟩ = some (.int .i64 f.ino) ∧ W.cell? ⟨w.heap.size, 1, none⟩ = some (.int .i64 f.ver) ∧ W.cell? ⟨w.heap.size, 2, none⟩ = some (.slice A m c) from ⟨(K1.out.below hb).cell 0, (K1.out.below hb).cell 1, (K1.out.below hb).cell 2⟩)
  go_enter Tryd.func28, Tryd.ntmps28
  go_upto_region 1 with fail
  rw [← hw1]
  clear hw1
  obtain ⟨x0, x1, x2⟩ := CC.out w1 (Below.refl _ _)
  go_wp2_with fail
  by_cases h1 : 1 ≤ f.ino ∧ f.ino ≤ 200
  rotate_left
  · refine (within_no h1 w1).mono ?_
    rintro e w2 ⟨rfl, hb⟩
    have B2 := hide (B1.out.trans (hb.mono B1.out.size))
    clear hb x0 x1 x2
    have hr := hide (HNO.out (fun h => h1 h.1))
    clear h1
    go_wp2_with fail
    go_ret
    exact ⟨by rw [hr.out]; rfl, B2.out⟩
  refine (within_yes h1 w1).mono ?_
  rintro e w2 ⟨rfl, hb⟩
  have C2 := hide hb
  clear hb x0 x1 x2
  have H1 := hide h1
  clear h1
  obtain ⟨x0, x1, x2⟩ := CC.out w2 C2.out
  go_wp2_with fail
  by_cases h2 : 0 ≤ f.ver ∧ f.ver ≤ 65535
  rotate_left
  · refine (within_no h2 w2).mono ?_
    rintro e w3 ⟨rfl, hb⟩
    have B2 := hide (B1.out.trans ((C2.out.trans (hb.mono C2.out.size)).mono B1.out.size))
    clear hb x0 x1 x2
    have hr := hide (HNO.out (fun h => h2 h.2.1))
    clear h2
    go_wp2_with fail
    go_ret
    exact ⟨by rw [hr.out]; rfl, B2.out⟩
  refine (within_yes h2 w2).mono ?_
  rintro e w3 ⟨rfl, hb⟩
  have C3 := hide (C2.out.trans (hb.mono C2.out.size))
  clear hb x0 x1 x2
  have H2 := hide h2
  clear h2
  obtain ⟨x0, x1, x2⟩ := CC.out w3 C3.out
  go_wp2_with fail
  by_cases h3 : 1 ≤ (m : Int) ∧ (m : Int) ≤ 30
  rotate_left
  · refine (within_no h3 w3).mono ?_
    rintro e w4 ⟨rfl, hb⟩
    have B2 := hide (B1.out.trans ((C3.out.trans (hb.mono C3.out.size)).mono B1.out.size))
    clear hb x0 x1 x2
    have hr := hide (HNO.out (fun h => h3 (by rw [HM.out]; exact h.2.2.1)))
    clear h3
    go_wp2_with fail
    go_ret
    exact ⟨by rw [hr.out]; rfl, B2.out⟩
  refine (within_yes h3 w3).mono ?_
  rintro e w4 ⟨rfl, hb⟩
  have C4 := hide (C3.out.trans (hb.mono C3.out.size))
  clear hb x0 x1 x2
  have H3 := hide h3
  clear h3
  obtain ⟨x0, x1, x2⟩ := CC.out w4 C4.out
  go_wp2_with fail
  have B4 := hide (B1.out.trans (C4.out.mono B1.out.size))
  refine (conf_any A m c _ _ f.ls w4 (SP.out.bel B4.out) (RwAt.below H.out B4.out) hn HL.out).mono ?_
  rintro e w5 ⟨rfl, hb⟩
  have B5 := hide (B4.out.trans (hb.mono B4.out.size))
  clear hb x0 x1 x2
  cases hv : f.ls.any badN with
  | true =>
    have hr := hide (HNO.out (fun h => by have := h.2.2.2; rw [hv] at this; cases this))
    clear hv
    go_wp2_with fail
    go_ret
    exact ⟨by rw [hr.out]; rfl, B5.out⟩
  | false =>
    have hr := hide (HYES.out ⟨H1.out, H2.out, by rw [← HM.out]; exact H3.out, hv⟩)
    clear hv
    go_wp2_with fail
    go_ret
    exact ⟨by rw [hr.out]; rfl, B5.out⟩
def gdH (e c i p x : Int) : Prop := (0 ≤ e ∧ e ≤ 65535) ∧ (0 ≤ c ∧ c ≤ 65535) ∧ (1 ≤ p ∧ p ≤ 64) ∧ (0 ≤ i ∧ i ≤ p - 1) ∧ (0 ≤ x ∧ x ≤ 4095)
instance (e c i p x : Int) : Decidable (gdH e c i p x) := by unfold gdH; infer_instance
def gdP (e c i p x : Int) (fs : List FI) (is : List Int) : Prop := gdH e c i p x ∧ (∀ f ∈ fs, gdF f) ∧ ∀ n ∈ is, 1 ≤ n ∧ n ≤ 200
instance (e c i p x : Int) (fs : List FI) (is : List Int) : Decidable (gdP e c i p x fs is) := by unfold gdP; infer_instance
def checkP (e c i p x : Int) (fs : List FI) (is : List Int) : Int := if gdP e c i p x fs is then (if 88 < szN fs is then 27 else 0) else 22
def okF (f : FI) : Bool := decide (gdF f)
def okN (n : Int) : Bool := decide (1 ≤ n ∧ n ≤ 200)
theorem all_takeB {α : Type} {P : α → Bool} {l : List α} {j : Nat} {x : α} (hx : l[j]? = some x) : (l.take (j + 1)).all P = ((l.take j).all P && P x) := by
  rw [List.take_add_one, hx, List.all_append]
  simp
theorem okP_iff (fs : List FI) (is : List Int) : (fs.all okF && is.all okN) = true ↔ (∀ f ∈ fs, gdF f) ∧ ∀ n ∈ is, 1 ≤ n ∧ n ≤ 200 := by
  rw [Bool.and_eq_true, List.all_eq_true, List.all_eq_true]
  exact ⟨fun h => ⟨fun f hf => of_decide_eq_true (h.1 f hf), fun n hn => of_decide_eq_true (h.2 n hn)⟩, fun h => ⟨fun f hf => decide_eq_true (h.1 f hf), fun n hn => decide_eq_true (h.2 n hn)⟩⟩
set_option maxRecDepth 100000 in
set_option maxHeartbeats 8000000 in
theorem check_any (e c i p x : Int) (A1 A2 : Option Addr) (n1 c1 n2 c2 lo base lo2 base2 : Nat) (fs : List FI) (is : List Int) (w : World) (sp : SpanAt w) (hf : FisAt lo base w A1 n1 fs) (hi : IntsAt lo2 base2 w A2 n2 is) (hn1 : n1 ≤ 1000) (hn2 : n2 ≤ 100000) (hls : lsN fs ≤ 100000)
    (h64 : ∀ f ∈ fs, ∀ x ∈ f.ls, I64 x) :
    Calls Tryd.prog 14 #[.agg (partC e c i p x A1 n1 c1 A2 n2 c2)] w fun r w' => r = .returned (.int .i64 (checkP e c i p x fs is)) ∧ Below w.heap.size w w' := by
  have HF := hide hf
  have HI := hide hi
  have HLS := hide hls
  have H64 := hide h64
  have HL1 := hide hf.len
  have HL2 := hide (IntsAt.len hi)
  have SP := hide sp
  have HB22 := hide (show ¬ gdP e c i p x fs is → checkP e c i p x fs is = 22 from fun h => by unfold checkP; rw [if_neg h])
  clear hf hi hls h64 sp
  obtain ⟨w1, hw1⟩ : ∃ W, W = w.alloc (.cells #[.int .i64 e, .int .i64 c, .int .i64 i, .int .i64 p, .int .i64 x, .slice A1 n1 c1, .slice A2 n2 c2] 25) := ⟨_, rfl⟩
  have K1 : Hid (Blk w1 w.heap.size 25 #[.int .i64 e, .int .i64 c, .int .i64 i, .int .i64 p, .int .i64 x, .slice A1 n1 c1, .slice A2 n2 c2]) := hide (by rw [hw1]; exact Blk.new _ _ _)
  have B1 : Hid (Below w.heap.size w w1) := hide (by rw [hw1]; exact (Below.refl _ _).alloc (Nat.le_refl _) _)
  have CC := hide (fun (W : World) (hb : Below w1.heap.size w1 W) => show W.cell? ⟨w.heap.size, 0, none⟩ = some (.int .i64 e) ∧ W.cell? ⟨w.heap.size, 1, none⟩ = some (.int .i64 c) ∧ W.cell? ⟨w.heap.size, 2, none⟩ = some (.int .i64 i) ∧ W.cell? ⟨w.heap.size, 3, none⟩ = some (.int .i64 p) ∧ W.cell? ⟨w.heap.size, 4, none⟩ = some (.int .i64 x) ∧ W.cell? ⟨w.heap.size, 5, none⟩ = some (.slice A1 n1 c1) ∧ W.cell? ⟨w.heap.size, 6, none⟩ = some (.slice A2 n2 c2) from
    ⟨(K1.out.below hb).cell 0, (K1.out.below hb).cell 1, (K1.out.below hb).cell 2, (K1.out.below hb).cell 3, (K1.out.below hb).cell 4, (K1.out.below hb).cell 5, (K1.out.below hb).cell 6⟩)
  unfold partC
  go_enter Tryd.func14, Tryd.ntmps14
  go_upto_region 1 with fail
  rw [← hw1]
  clear hw1
  have C0 := hide (Below.refl w1.heap.size w1)
  obtain ⟨x0, x1, x2, x3, x4, x5, x6⟩ := CC.out w1 C0.out
  go_wp2_with fail
  by_cases h0 : 0 ≤ e ∧ e ≤ 65535
  rotate_left
  · refine (within_no h0 w1).mono ?_
    rintro r wk ⟨rfl, hb⟩
    have CK := hide (C0.out.trans (hb.mono C0.out.size))
    clear hb x0 x1 x2 x3 x4 x5 x6
    have HK := hide h0
    clear h0
    have hr := hide (HB22.out (fun h => HK.out (h.1.1)))
    obtain ⟨x0, x1, x2, x3, x4, x5, x6⟩ := CC.out wk CK.out
    go_wp2_with fail
    clear x0 x1 x2 x3 x4 x5 x6
    go_loopw [3, 37] (fun v y wr => ∃ j : Nat, j ≤ n1 ∧ y = .int .i64 (j : Int) ∧ v = .bool false ∧ Below w1.heap.size w1 wr) (fun _ y _ => n1 - (intOf y).toNat)
    case atStart => exact ⟨0, Nat.zero_le _, rfl, rfl, CK.out⟩
    case round =>
      obtain ⟨j, hj, rfl, rfl, hb⟩ := hrel
      have HB := hide hb
      clear hb
      by_cases hlt : j < n1
      · obtain ⟨b5, off5, f, A5, c5, hA5, hFr, hfi, hI5, z0, z1, z2⟩ := (HF.out.below (B1.out.trans (HB.out.mono B1.out.size))).at hlt
        subst hA5
        obtain ⟨m5, hm5⟩ : ∃ z, z = f.ls.length := ⟨_, rfl⟩
        rw [← hm5] at z2
        have hjs : (j : Int) < (n1 : Int) := by omega
        have hj64 : IntKind.i64.wrap (j : Int) = (j : Int) := by rw [IntKind.wrap_i64]; omega
        clear hFr hfi hI5 hm5
        go_wp2_with fail
        go_roundw
        case rel => exact ⟨j + 1, by omega, by go_num, rfl, HB.out.alloc HB.out.size _⟩
        case measure => simp [intOf]; omega
      · obtain ⟨x0, x1, x2, x3, x4, x5, x6⟩ := CC.out wr HB.out
        go_wp2_with fail
        clear x0 x1 x2 x3 x4 x5 x6
        go_loopw [3, 50] (fun v y wr => ∃ j : Nat, j ≤ n2 ∧ y = .int .i64 (j : Int) ∧ v = .bool false ∧ Below w1.heap.size w1 wr) (fun _ y _ => n2 - (intOf y).toNat)
        case atStart => exact ⟨0, Nat.zero_le _, rfl, rfl, HB.out⟩
        case round =>
          obtain ⟨k, hk, rfl, rfl, hb⟩ := hrel
          have HB2 := hide hb
          clear hb
          by_cases hlt2 : k < n2
          · obtain ⟨b6, off6, hA6, -, hc6⟩ := RwAt.at (RwAt.below HI.out (B1.out.trans (HB2.out.mono B1.out.size))) (by omega) (by decide)
            have z6 := hc6 k (.int .i64 (is[k]'(by rw [HL2.out]; exact hlt2))) (by rw [intC, List.getElem?_map, List.getElem?_eq_getElem (by rw [HL2.out]; exact hlt2)]; rfl)
            subst hA6
            have hks : (k : Int) < (n2 : Int) := by omega
            have hk64 : IntKind.i64.wrap (k : Int) = (k : Int) := by rw [IntKind.wrap_i64]; omega
            clear hc6
            go_wp2_with fail
            go_roundw
            case rel => exact ⟨k + 1, by omega, by go_num, rfl, HB2.out⟩
            case measure => simp [intOf]; omega
          · go_wp2_with fail
            go_ret
            exact ⟨by rw [hr.out]; rfl, B1.out.trans (HB2.out.mono B1.out.size)⟩
  refine (within_yes h0 w1).mono ?_
  rintro r w2 ⟨rfl, hb⟩
  have C1 := hide (C0.out.trans (hb.mono C0.out.size))
  clear hb x0 x1 x2 x3 x4 x5 x6
  have H0 := hide h0
  clear h0
  obtain ⟨x0, x1, x2, x3, x4, x5, x6⟩ := CC.out w2 C1.out
  go_wp2_with fail
  by_cases h1 : 0 ≤ c ∧ c ≤ 65535
  rotate_left
  · refine (within_no h1 w2).mono ?_
    rintro r wk ⟨rfl, hb⟩
    have CK := hide (C1.out.trans (hb.mono C1.out.size))
    clear hb x0 x1 x2 x3 x4 x5 x6
    have HK := hide h1
    clear h1
    have hr := hide (HB22.out (fun h => HK.out (h.1.2.1)))
    obtain ⟨x0, x1, x2, x3, x4, x5, x6⟩ := CC.out wk CK.out
    go_wp2_with fail
    clear x0 x1 x2 x3 x4 x5 x6
    go_loopw [3, 37] (fun v y wr => ∃ j : Nat, j ≤ n1 ∧ y = .int .i64 (j : Int) ∧ v = .bool false ∧ Below w1.heap.size w1 wr) (fun _ y _ => n1 - (intOf y).toNat)
    case atStart => exact ⟨0, Nat.zero_le _, rfl, rfl, CK.out⟩
    case round =>
      obtain ⟨j, hj, rfl, rfl, hb⟩ := hrel
      have HB := hide hb
      clear hb
      by_cases hlt : j < n1
      · obtain ⟨b5, off5, f, A5, c5, hA5, hFr, hfi, hI5, z0, z1, z2⟩ := (HF.out.below (B1.out.trans (HB.out.mono B1.out.size))).at hlt
        subst hA5
        obtain ⟨m5, hm5⟩ : ∃ z, z = f.ls.length := ⟨_, rfl⟩
        rw [← hm5] at z2
        have hjs : (j : Int) < (n1 : Int) := by omega
        have hj64 : IntKind.i64.wrap (j : Int) = (j : Int) := by rw [IntKind.wrap_i64]; omega
        clear hFr hfi hI5 hm5
        go_wp2_with fail
        go_roundw
        case rel => exact ⟨j + 1, by omega, by go_num, rfl, HB.out.alloc HB.out.size _⟩
        case measure => simp [intOf]; omega
      · obtain ⟨x0, x1, x2, x3, x4, x5, x6⟩ := CC.out wr HB.out
        go_wp2_with fail
        clear x0 x1 x2 x3 x4 x5 x6
        go_loopw [3, 50] (fun v y wr => ∃ j : Nat, j ≤ n2 ∧ y = .int .i64 (j : Int) ∧ v = .bool false ∧ Below w1.heap.size w1 wr) (fun _ y _ => n2 - (intOf y).toNat)
        case atStart => exact ⟨0, Nat.zero_le _, rfl, rfl, HB.out⟩
        case round =>
          obtain ⟨k, hk, rfl, rfl, hb⟩ := hrel
          have HB2 := hide hb
          clear hb
          by_cases hlt2 : k < n2
          · obtain ⟨b6, off6, hA6, -, hc6⟩ := RwAt.at (RwAt.below HI.out (B1.out.trans (HB2.out.mono B1.out.size))) (by omega) (by decide)
            have z6 := hc6 k (.int .i64 (is[k]'(by rw [HL2.out]; exact hlt2))) (by rw [intC, List.getElem?_map, List.getElem?_eq_getElem (by rw [HL2.out]; exact hlt2)]; rfl)
            subst hA6
            have hks : (k : Int) < (n2 : Int) := by omega
            have hk64 : IntKind.i64.wrap (k : Int) = (k : Int) := by rw [IntKind.wrap_i64]; omega
            clear hc6
            go_wp2_with fail
            go_roundw
            case rel => exact ⟨k + 1, by omega, by go_num, rfl, HB2.out⟩
            case measure => simp [intOf]; omega
          · go_wp2_with fail
            go_ret
            exact ⟨by rw [hr.out]; rfl, B1.out.trans (HB2.out.mono B1.out.size)⟩
  refine (within_yes h1 w2).mono ?_
  rintro r w3 ⟨rfl, hb⟩
  have C2 := hide (C1.out.trans (hb.mono C1.out.size))
  clear hb x0 x1 x2 x3 x4 x5 x6
  have H1 := hide h1
  clear h1
  obtain ⟨x0, x1, x2, x3, x4, x5, x6⟩ := CC.out w3 C2.out
  go_wp2_with fail
  by_cases h2 : 1 ≤ p ∧ p ≤ 64
  rotate_left
  · refine (within_no h2 w3).mono ?_
    rintro r wk ⟨rfl, hb⟩
    have CK := hide (C2.out.trans (hb.mono C2.out.size))
    clear hb x0 x1 x2 x3 x4 x5 x6
    have HK := hide h2
    clear h2
    have hr := hide (HB22.out (fun h => HK.out (h.1.2.2.1)))
    obtain ⟨x0, x1, x2, x3, x4, x5, x6⟩ := CC.out wk CK.out
    go_wp2_with fail
    clear x0 x1 x2 x3 x4 x5 x6
    go_loopw [3, 37] (fun v y wr => ∃ j : Nat, j ≤ n1 ∧ y = .int .i64 (j : Int) ∧ v = .bool false ∧ Below w1.heap.size w1 wr) (fun _ y _ => n1 - (intOf y).toNat)
    case atStart => exact ⟨0, Nat.zero_le _, rfl, rfl, CK.out⟩
    case round =>
      obtain ⟨j, hj, rfl, rfl, hb⟩ := hrel
      have HB := hide hb
      clear hb
      by_cases hlt : j < n1
      · obtain ⟨b5, off5, f, A5, c5, hA5, hFr, hfi, hI5, z0, z1, z2⟩ := (HF.out.below (B1.out.trans (HB.out.mono B1.out.size))).at hlt
        subst hA5
        obtain ⟨m5, hm5⟩ : ∃ z, z = f.ls.length := ⟨_, rfl⟩
        rw [← hm5] at z2
        have hjs : (j : Int) < (n1 : Int) := by omega
        have hj64 : IntKind.i64.wrap (j : Int) = (j : Int) := by rw [IntKind.wrap_i64]; omega
        clear hFr hfi hI5 hm5
        go_wp2_with fail
        go_roundw
        case rel => exact ⟨j + 1, by omega, by go_num, rfl, HB.out.alloc HB.out.size _⟩
        case measure => simp [intOf]; omega
      · obtain ⟨x0, x1, x2, x3, x4, x5, x6⟩ := CC.out wr HB.out
        go_wp2_with fail
        clear x0 x1 x2 x3 x4 x5 x6
        go_loopw [3, 50] (fun v y wr => ∃ j : Nat, j ≤ n2 ∧ y = .int .i64 (j : Int) ∧ v = .bool false ∧ Below w1.heap.size w1 wr) (fun _ y _ => n2 - (intOf y).toNat)
        case atStart => exact ⟨0, Nat.zero_le _, rfl, rfl, HB.out⟩
        case round =>
          obtain ⟨k, hk, rfl, rfl, hb⟩ := hrel
          have HB2 := hide hb
          clear hb
          by_cases hlt2 : k < n2
          · obtain ⟨b6, off6, hA6, -, hc6⟩ := RwAt.at (RwAt.below HI.out (B1.out.trans (HB2.out.mono B1.out.size))) (by omega) (by decide)
            have z6 := hc6 k (.int .i64 (is[k]'(by rw [HL2.out]; exact hlt2))) (by rw [intC, List.getElem?_map, List.getElem?_eq_getElem (by rw [HL2.out]; exact hlt2)]; rfl)
            subst hA6
            have hks : (k : Int) < (n2 : Int) := by omega
            have hk64 : IntKind.i64.wrap (k : Int) = (k : Int) := by rw [IntKind.wrap_i64]; omega
            clear hc6
            go_wp2_with fail
            go_roundw
            case rel => exact ⟨k + 1, by omega, by go_num, rfl, HB2.out⟩
            case measure => simp [intOf]; omega
          · go_wp2_with fail
            go_ret
            exact ⟨by rw [hr.out]; rfl, B1.out.trans (HB2.out.mono B1.out.size)⟩
  refine (within_yes h2 w3).mono ?_
  rintro r w4 ⟨rfl, hb⟩
  have C3 := hide (C2.out.trans (hb.mono C2.out.size))
  clear hb x0 x1 x2 x3 x4 x5 x6
  have H2 := hide h2
  clear h2
  obtain ⟨x0, x1, x2, x3, x4, x5, x6⟩ := CC.out w4 C3.out
  have hp1 : wrap64 (p - 1) = p - 1 := IntWalk.wrap64_in _ (by have := H2.out; omega)
  have hp2 : IntKind.i64.wrap (p - 1) = p - 1 := IntWalk.i64_in _ (by have := H2.out; omega)
  go_wp2_with fail
  try simp only [hp1, hp2]
  clear hp1 hp2
  by_cases h3 : 0 ≤ i ∧ i ≤ p - 1
  rotate_left
  · refine (within_no h3 w4).mono ?_
    rintro r wk ⟨rfl, hb⟩
    have CK := hide (C3.out.trans (hb.mono C3.out.size))
    clear hb x0 x1 x2 x3 x4 x5 x6
    have HK := hide h3
    clear h3
    have hr := hide (HB22.out (fun h => HK.out (h.1.2.2.2.1)))
    obtain ⟨x0, x1, x2, x3, x4, x5, x6⟩ := CC.out wk CK.out
    go_wp2_with fail
    clear x0 x1 x2 x3 x4 x5 x6
    go_loopw [3, 37] (fun v y wr => ∃ j : Nat, j ≤ n1 ∧ y = .int .i64 (j : Int) ∧ v = .bool false ∧ Below w1.heap.size w1 wr) (fun _ y _ => n1 - (intOf y).toNat)
    case atStart => exact ⟨0, Nat.zero_le _, rfl, rfl, CK.out⟩
    case round =>
      obtain ⟨j, hj, rfl, rfl, hb⟩ := hrel
      have HB := hide hb
      clear hb
      by_cases hlt : j < n1
      · obtain ⟨b5, off5, f, A5, c5, hA5, hFr, hfi, hI5, z0, z1, z2⟩ := (HF.out.below (B1.out.trans (HB.out.mono B1.out.size))).at hlt
        subst hA5
        obtain ⟨m5, hm5⟩ : ∃ z, z = f.ls.length := ⟨_, rfl⟩
        rw [← hm5] at z2
        have hjs : (j : Int) < (n1 : Int) := by omega
        have hj64 : IntKind.i64.wrap (j : Int) = (j : Int) := by rw [IntKind.wrap_i64]; omega
        clear hFr hfi hI5 hm5
        go_wp2_with fail
        go_roundw
        case rel => exact ⟨j + 1, by omega, by go_num, rfl, HB.out.alloc HB.out.size _⟩
        case measure => simp [intOf]; omega
      · obtain ⟨x0, x1, x2, x3, x4, x5, x6⟩ := CC.out wr HB.out
        go_wp2_with fail
        clear x0 x1 x2 x3 x4 x5 x6
        go_loopw [3, 50] (fun v y wr => ∃ j : Nat, j ≤ n2 ∧ y = .int .i64 (j : Int) ∧ v = .bool false ∧ Below w1.heap.size w1 wr) (fun _ y _ => n2 - (intOf y).toNat)
        case atStart => exact ⟨0, Nat.zero_le _, rfl, rfl, HB.out⟩
        case round =>
          obtain ⟨k, hk, rfl, rfl, hb⟩ := hrel
          have HB2 := hide hb
          clear hb
          by_cases hlt2 : k < n2
          · obtain ⟨b6, off6, hA6, -, hc6⟩ := RwAt.at (RwAt.below HI.out (B1.out.trans (HB2.out.mono B1.out.size))) (by omega) (by decide)
            have z6 := hc6 k (.int .i64 (is[k]'(by rw [HL2.out]; exact hlt2))) (by rw [intC, List.getElem?_map, List.getElem?_eq_getElem (by rw [HL2.out]; exact hlt2)]; rfl)
            subst hA6
            have hks : (k : Int) < (n2 : Int) := by omega
            have hk64 : IntKind.i64.wrap (k : Int) = (k : Int) := by rw [IntKind.wrap_i64]; omega
            clear hc6
            go_wp2_with fail
            go_roundw
            case rel => exact ⟨k + 1, by omega, by go_num, rfl, HB2.out⟩
            case measure => simp [intOf]; omega
          · go_wp2_with fail
            go_ret
            exact ⟨by rw [hr.out]; rfl, B1.out.trans (HB2.out.mono B1.out.size)⟩
  refine (within_yes h3 w4).mono ?_
  rintro r w5 ⟨rfl, hb⟩
  have C4 := hide (C3.out.trans (hb.mono C3.out.size))
  clear hb x0 x1 x2 x3 x4 x5 x6
  have H3 := hide h3
  clear h3
  obtain ⟨x0, x1, x2, x3, x4, x5, x6⟩ := CC.out w5 C4.out
  go_wp2_with fail
  by_cases h4 : 0 ≤ x ∧ x ≤ 4095
  rotate_left
  · refine (within_no h4 w5).mono ?_
    rintro r wk ⟨rfl, hb⟩
    have CK := hide (C4.out.trans (hb.mono C4.out.size))
    clear hb x0 x1 x2 x3 x4 x5 x6
    have HK := hide h4
    clear h4
    have hr := hide (HB22.out (fun h => HK.out (h.1.2.2.2.2)))
    obtain ⟨x0, x1, x2, x3, x4, x5, x6⟩ := CC.out wk CK.out
    go_wp2_with fail
    clear x0 x1 x2 x3 x4 x5 x6
    go_loopw [3, 37] (fun v y wr => ∃ j : Nat, j ≤ n1 ∧ y = .int .i64 (j : Int) ∧ v = .bool false ∧ Below w1.heap.size w1 wr) (fun _ y _ => n1 - (intOf y).toNat)
    case atStart => exact ⟨0, Nat.zero_le _, rfl, rfl, CK.out⟩
    case round =>
      obtain ⟨j, hj, rfl, rfl, hb⟩ := hrel
      have HB := hide hb
      clear hb
      by_cases hlt : j < n1
      · obtain ⟨b5, off5, f, A5, c5, hA5, hFr, hfi, hI5, z0, z1, z2⟩ := (HF.out.below (B1.out.trans (HB.out.mono B1.out.size))).at hlt
        subst hA5
        obtain ⟨m5, hm5⟩ : ∃ z, z = f.ls.length := ⟨_, rfl⟩
        rw [← hm5] at z2
        have hjs : (j : Int) < (n1 : Int) := by omega
        have hj64 : IntKind.i64.wrap (j : Int) = (j : Int) := by rw [IntKind.wrap_i64]; omega
        clear hFr hfi hI5 hm5
        go_wp2_with fail
        go_roundw
        case rel => exact ⟨j + 1, by omega, by go_num, rfl, HB.out.alloc HB.out.size _⟩
        case measure => simp [intOf]; omega
      · obtain ⟨x0, x1, x2, x3, x4, x5, x6⟩ := CC.out wr HB.out
        go_wp2_with fail
        clear x0 x1 x2 x3 x4 x5 x6
        go_loopw [3, 50] (fun v y wr => ∃ j : Nat, j ≤ n2 ∧ y = .int .i64 (j : Int) ∧ v = .bool false ∧ Below w1.heap.size w1 wr) (fun _ y _ => n2 - (intOf y).toNat)
        case atStart => exact ⟨0, Nat.zero_le _, rfl, rfl, HB.out⟩
        case round =>
          obtain ⟨k, hk, rfl, rfl, hb⟩ := hrel
          have HB2 := hide hb
          clear hb
          by_cases hlt2 : k < n2
          · obtain ⟨b6, off6, hA6, -, hc6⟩ := RwAt.at (RwAt.below HI.out (B1.out.trans (HB2.out.mono B1.out.size))) (by omega) (by decide)
            have z6 := hc6 k (.int .i64 (is[k]'(by rw [HL2.out]; exact hlt2))) (by rw [intC, List.getElem?_map, List.getElem?_eq_getElem (by rw [HL2.out]; exact hlt2)]; rfl)
            subst hA6
            have hks : (k : Int) < (n2 : Int) := by omega
            have hk64 : IntKind.i64.wrap (k : Int) = (k : Int) := by rw [IntKind.wrap_i64]; omega
            clear hc6
            go_wp2_with fail
            go_roundw
            case rel => exact ⟨k + 1, by omega, by go_num, rfl, HB2.out⟩
            case measure => simp [intOf]; omega
          · go_wp2_with fail
            go_ret
            exact ⟨by rw [hr.out]; rfl, B1.out.trans (HB2.out.mono B1.out.size)⟩
  refine (within_yes h4 w5).mono ?_
  rintro r w6 ⟨rfl, hb⟩
  have C5 := hide (C4.out.trans (hb.mono C4.out.size))
  clear hb x0 x1 x2 x3 x4 x5 x6
  have H4 := hide h4
  clear h4
  have HH := hide (show gdH e c i p x from ⟨H0.out, H1.out, H2.out, H3.out, H4.out⟩)
  obtain ⟨x0, x1, x2, x3, x4, x5, x6⟩ := CC.out w6 C5.out
  go_wp2_with fail
  clear x0 x1 x2 x3 x4 x5 x6
  go_loopw [3, 37] (fun v y wr => ∃ j : Nat, j ≤ n1 ∧ y = .int .i64 (j : Int) ∧ v = .bool ((fs.take j).all okF) ∧ Below w1.heap.size w1 wr) (fun _ y _ => n1 - (intOf y).toNat)
  case atStart => exact ⟨0, Nat.zero_le _, rfl, by simp, C5.out⟩
  case round =>
    obtain ⟨j, hj, rfl, rfl, hb⟩ := hrel
    have HB := hide hb
    have BB := hide (B1.out.trans (hb.mono B1.out.size))
    clear hb
    by_cases hlt : j < n1
    · obtain ⟨b5, off5, f, A5, c5, hA5, hFr, hfi, hI5, z0, z1, z2⟩ := (HF.out.below BB.out).at hlt
      subst hA5
      have HFI := hide hfi
      have AT := hide (all_takeB (P := okF) hfi)
      have H64F := hide (H64.out f (List.mem_of_getElem? hfi))
      have HLF := hide (show f.ls.length ≤ 1000000 by have := lsN_mem hfi; have := HLS.out; omega)
      have HI5 := hide (RwAt.below hI5 ((Below.refl wr.heap.size wr).alloc (Nat.le_refl _) (.cells #[.int .i64 f.ino, .int .i64 f.ver, .slice A5 f.ls.length c5] 46)))
      have KF := hide (Blk.new wr 46 #[.int .i64 f.ino, .int .i64 f.ver, .slice A5 f.ls.length c5])
      have BA := hide (HB.out.alloc HB.out.size (.cells #[.int .i64 f.ino, .int .i64 f.ver, .slice A5 f.ls.length c5] 46))
      obtain ⟨wb, hwb⟩ : ∃ W, W = wr.alloc (.cells #[.int .i64 f.ino, .int .i64 f.ver, .slice A5 f.ls.length c5] 46) := ⟨_, rfl⟩
      rw [← hwb] at HI5 KF BA
      have hjs : (j : Int) < (n1 : Int) := by omega
      have hj64 : IntKind.i64.wrap (j : Int) = (j : Int) := by rw [IntKind.wrap_i64]; omega
      cases hgb : (fs.take j).all okF with
      | false =>
        have HGB := hide hgb
        clear hgb hFr hfi hI5
        go_wp2_with fail
        rw [← hwb]
        go_roundw
        case rel => exact ⟨j + 1, by omega, by go_num, by rw [AT.out, HGB.out]; rfl, BA.out⟩
        case measure => simp [intOf]; omega
      | true =>
        have HGB := hide hgb
        clear hgb hFr hfi hI5
        go_upto_region 5 with fail
        rw [← hwb]
        have k0 := KF.out.cell 0
        have k1 := KF.out.cell 1
        have k2 := KF.out.cell 2
        simp only [List.getElem?_toArray, List.getElem?_cons_succ, List.getElem?_cons_zero] at k0 k1 k2
        clear hwb z0 z1 z2
        go_wp2_with fail
        refine (file_any f A5 c5 _ _ wb (SP.out.bel (B1.out.trans (BA.out.mono B1.out.size))) HI5.out HLF.out H64F.out).mono ?_
        rintro r w8 ⟨rfl, hb⟩
        have B8 := hide (BA.out.trans (hb.mono BA.out.size))
        clear hb k0 k1 k2
        rw [show decide (gdF f) = okF f from rfl]
        cases hgf : okF f with
        | true =>
          have HGF := hide hgf
          clear hgf
          go_wp2_with fail
          go_roundw
          case rel => exact ⟨j + 1, by omega, by go_num, by rw [AT.out, HGB.out, HGF.out]; rfl, B8.out⟩
          case measure => simp [intOf]; omega
        | false =>
          have HGF := hide hgf
          clear hgf
          go_wp2_with fail
          go_roundw
          case rel => exact ⟨j + 1, by omega, by go_num, by rw [AT.out, HGB.out, HGF.out]; rfl, B8.out⟩
          case measure => simp [intOf]; omega
    · have hjn : j = n1 := by omega
      have hfull : fs.take j = fs := by rw [hjn, ← HL1.out, List.take_length]
      rw [hfull]
      clear hjn hfull
      obtain ⟨x0, x1, x2, x3, x4, x5, x6⟩ := CC.out wr HB.out
      go_wp2_with fail
      clear x0 x1 x2 x3 x4 x5 x6
      go_loopw [3, 50] (fun v y wr => ∃ k : Nat, k ≤ n2 ∧ y = .int .i64 (k : Int) ∧ v = .bool (fs.all okF && (is.take k).all okN) ∧ Below w1.heap.size w1 wr) (fun _ y _ => n2 - (intOf y).toNat)
      case atStart => exact ⟨0, Nat.zero_le _, rfl, by simp, HB.out⟩
      case round =>
        obtain ⟨k, hk, rfl, rfl, hb⟩ := hrel
        have HB2 := hide hb
        have BB2 := hide (B1.out.trans (hb.mono B1.out.size))
        clear hb
        by_cases hlt2 : k < n2
        · obtain ⟨zn, hzn⟩ : ∃ z, is[k]? = some z := ⟨_, List.getElem?_eq_getElem (by rw [HL2.out]; exact hlt2)⟩
          obtain ⟨b6, off6, hA6, -, hc6⟩ := RwAt.at (RwAt.below HI.out BB2.out) (by omega) (by decide)
          have z6 := hc6 k (.int .i64 zn) (by rw [intC, List.getElem?_map, hzn]; rfl)
          have AT := hide (all_takeB (P := okN) hzn)
          subst hA6
          have hks : (k : Int) < (n2 : Int) := by omega
          have hk64 : IntKind.i64.wrap (k : Int) = (k : Int) := by rw [IntKind.wrap_i64]; omega
          clear hc6 hzn
          cases hgb : (fs.all okF && (is.take k).all okN) with
          | false =>
            have HGB := hide hgb
            clear hgb
            go_wp2_with fail
            go_roundw
            case rel => exact ⟨k + 1, by omega, by go_num, by rw [AT.out, ← Bool.and_assoc, HGB.out]; rfl, HB2.out⟩
            case measure => simp [intOf]; omega
          | true =>
            have HGB := hide hgb
            clear hgb
            go_wp2_with fail
            refine (within_any zn 1 200 wr).mono ?_
            rintro r w8 ⟨rfl, hb⟩
            have B8 := hide (HB2.out.trans (hb.mono HB2.out.size))
            clear hb z6
            rw [show decide (1 ≤ zn ∧ zn ≤ 200) = okN zn from rfl]
            cases hgf : okN zn with
            | true =>
              have HGF := hide hgf
              clear hgf
              go_wp2_with fail
              go_roundw
              case rel => exact ⟨k + 1, by omega, by go_num, by rw [AT.out, ← Bool.and_assoc, HGB.out, HGF.out]; rfl, B8.out⟩
              case measure => simp [intOf]; omega
            | false =>
              have HGF := hide hgf
              clear hgf
              go_wp2_with fail
              go_roundw
              case rel => exact ⟨k + 1, by omega, by go_num, by rw [AT.out, ← Bool.and_assoc, HGB.out, HGF.out]; rfl, B8.out⟩
              case measure => simp [intOf]; omega
        · have hkn : k = n2 := by omega
          have hfull : is.take k = is := by rw [hkn, ← HL2.out, List.take_length]
          rw [hfull]
          clear hkn hfull
          cases hgb : (fs.all okF && is.all okN) with
          | false =>
            have hr := hide (HB22.out (fun h => by rw [(okP_iff fs is).2 h.2] at hgb; cases hgb))
            clear hgb
            go_wp2_with fail
            go_ret
            exact ⟨by rw [hr.out]; rfl, BB2.out⟩
          | true =>
            have hgd : gdP e c i p x fs is := ⟨HH.out, (okP_iff fs is).1 hgb⟩
            have HCK := hide (show checkP e c i p x fs is = if 88 < szN fs is then 27 else 0 by unfold checkP; rw [if_pos hgd])
            clear hgb hgd
            obtain ⟨x0, x1, x2, x3, x4, x5, x6⟩ := CC.out wr HB2.out
            go_wp2_with fail
            have CS := hide (size_any e c i p x A1 A2 n1 c1 n2 c2 _ _ fs wr (HF.out.below BB2.out) (by omega) (by omega) HLS.out)
            have HSZ := hide (show 10 + n2 + (4 * n1 + 2 * lsN fs) = szN fs is by unfold szN; rw [HL1.out, HL2.out])
            unfold partC at CS
            clear x0 x1 x2 x3 x4 x5 x6
            refine CS.out.mono ?_
            rintro r w8 ⟨rfl, hb⟩
            rw [HSZ.out]
            have B8 := hide (BB2.out.trans (hb.mono BB2.out.size))
            clear hb CS
            by_cases h88 : 88 < szN fs is
            · have HV := hide (HCK.out.trans (if_pos h88))
              have h88' : (88 : Int) < ((szN fs is : Nat) : Int) := by omega
              go_wp2_with fail
              go_ret
              exact ⟨by rw [HV.out]; rfl, B8.out⟩
            · have HV := hide (HCK.out.trans (if_neg h88))
              have h88' : ¬ (88 : Int) < ((szN fs is : Nat) : Int) := by omega
              go_wp2_with fail
              go_ret
              exact ⟨by rw [HV.out]; rfl, B8.out⟩
end Go.Proofs.YtbamdibpkkponaaDoor

/- What is read of a summary's blocks, in plain lists. No program in sight. -/
namespace Go.Proofs.YtbamdibpkkponaaDoor
open Go.RowKit

/-- A number of bytes, the lowest first. -/
def leV : List UInt8 → Nat
  | [] => 0
  | x :: xs => x.toNat + 256 * leV xs
/-- The number of the next bytes. -/
def nx (k : Nat) (l : List UInt8) : Nat := leV (l.take k)
theorem leV_lt : ∀ l : List UInt8, leV l < 256 ^ l.length
  | [] => by simp [leV]
  | x :: xs => by
    have h1 := leV_lt xs
    have h2 : x.toNat < 256 := x.toNat_lt
    rw [leV, List.length_cons, Nat.pow_succ]
    omega
theorem leV_snoc (l : List UInt8) (x : UInt8) : leV (l ++ [x]) = leV l + x.toNat * 256 ^ l.length := by
  induction l with
  | nil => simp [leV]
  | cons a l ih =>
    rw [List.cons_append, leV, leV, ih, List.length_cons, Nat.pow_succ]
    have : x.toNat * (256 ^ l.length * 256) = 256 * (x.toNat * 256 ^ l.length) := by rw [Nat.mul_comm (256 ^ l.length) 256, Nat.mul_left_comm]
    omega
theorem nx1 (x : UInt8) (l : List UInt8) : nx 1 (x :: l) = x.toNat := by simp [nx, leV]
theorem nx2 (x y : UInt8) (l : List UInt8) : nx 2 (x :: y :: l) = x.toNat + 256 * y.toNat := by simp [nx, leV]
theorem nx4 (x y z u : UInt8) (l : List UInt8) : nx 4 (x :: y :: z :: u :: l) = x.toNat + 256 * (y.toNat + 256 * (z.toNat + 256 * u.toNat)) := by simp [nx, leV]
theorem nx1_lt (l : List UInt8) : nx 1 l < 256 := by
  cases l with
  | nil => simp [nx, leV]
  | cons x l => rw [nx1]; exact x.toNat_lt
theorem nx2_lt (l : List UInt8) : nx 2 l < 65536 := by
  have h := leV_lt (l.take 2)
  have h2 : 256 ^ (l.take 2).length ≤ 256 ^ 2 := Nat.pow_le_pow_right (by decide) (by rw [List.length_take]; omega)
  exact Nat.lt_of_lt_of_le h h2
theorem nx4_lt (l : List UInt8) : nx 4 l < 4294967296 := by
  have h := leV_lt (l.take 4)
  have h2 : 256 ^ (l.take 4).length ≤ 256 ^ 4 := Nat.pow_le_pow_right (by decide) (by rw [List.length_take]; omega)
  exact Nat.lt_of_lt_of_le h h2
theorem nx1_b8 (n : Int) (l : List UInt8) : ((nx 1 (b8 n :: l) : Nat) : Int) = n % 256 := by rw [nx1, b8_val]
theorem nx2_tw (n : Int) (l : List UInt8) : ((nx 2 (tw n ++ l) : Nat) : Int) = n % 65536 := by
  have h1 := b8_val n
  have h2 := b8_val (n / 256)
  have h3 := nx2 (b8 n) (b8 (n / 256)) l
  show ((nx 2 (b8 n :: b8 (n / 256) :: l) : Nat) : Int) = _
  omega
theorem nx4_tw (s : Nat) (hs : s < 4294967296) (l : List UInt8) : nx 4 (tw ((s % 65536 : Nat) : Int) ++ (tw ((s / 65536 : Nat) : Int) ++ l)) = s := by
  have h1 := b8_val ((s % 65536 : Nat) : Int)
  have h2 := b8_val (((s % 65536 : Nat) : Int) / 256)
  have h3 := b8_val ((s / 65536 : Nat) : Int)
  have h4 := b8_val (((s / 65536 : Nat) : Int) / 256)
  have h5 := nx4 (b8 ((s % 65536 : Nat) : Int)) (b8 (((s % 65536 : Nat) : Int) / 256)) (b8 ((s / 65536 : Nat) : Int)) (b8 (((s / 65536 : Nat) : Int) / 256)) l
  show nx 4 (b8 ((s % 65536 : Nat) : Int) :: b8 (((s % 65536 : Nat) : Int) / 256) :: b8 ((s / 65536 : Nat) : Int) :: b8 (((s / 65536 : Nat) : Int) / 256) :: l) = _
  omega

/-- Blocks of a file. -/
def pLs (n : Nat) (l : List UInt8) : List Int := (List.range n).map fun j => ((nx 2 (l.drop (2 * j)) : Nat) : Int) - 1000
theorem pLs_len (n : Nat) (l : List UInt8) : (pLs n l).length = n := by simp [pLs]
theorem pLs_succ (n : Nat) (l : List UInt8) : pLs (n + 1) l = pLs n l ++ [((nx 2 (l.drop (2 * n)) : Nat) : Int) - 1000] := by simp [pLs, List.range_succ]
def pF (l : List UInt8) : FI := ⟨(nx 1 l : Nat), (nx 2 (l.drop 1) : Nat), pLs (nx 1 (l.drop 3)) (l.drop 4)⟩
def lenF (l : List UInt8) : Nat := 4 + 2 * nx 1 (l.drop 3)
def pFs : Nat → List UInt8 → List FI × List UInt8
  | 0, l => ([], l)
  | k + 1, l => ((pFs k l).1 ++ [pF (pFs k l).2], (pFs k l).2.drop (lenF (pFs k l).2))
theorem pFs_len : ∀ (k : Nat) (l : List UInt8), (pFs k l).1.length = k
  | 0, _ => rfl
  | k + 1, l => by rw [pFs, List.length_append, pFs_len k l]; rfl
def pIs (n : Nat) (l : List UInt8) : List Int := (List.range n).map fun j => ((nx 1 (l.drop j) : Nat) : Int)
theorem pIs_len (n : Nat) (l : List UInt8) : (pIs n l).length = n := by simp [pIs]
theorem pIs_succ (n : Nat) (l : List UInt8) : pIs (n + 1) l = pIs n l ++ [((nx 1 (l.drop n) : Nat) : Int)] := by simp [pIs, List.range_succ]
theorem pFs_bd : ∀ (k : Nat) (l : List UInt8), lsN (pFs k l).1 ≤ 256 * k ∧ ∀ f ∈ (pFs k l).1, ∀ x ∈ f.ls, -1000 ≤ x ∧ x < 65536
  | 0, _ => by simp [pFs, lsN, sumN]
  | k + 1, l => by
    obtain ⟨h1, h2⟩ := pFs_bd k l
    rw [pFs]
    dsimp only
    constructor
    · rw [lsN_app]
      have h3 : lsN [pF (pFs k l).2] = nx 1 ((pFs k l).2.drop 3) := by simp [lsN, sumN, pF, pLs_len]
      have h4 := nx1_lt ((pFs k l).2.drop 3)
      omega
    · intro f hf x hx
      rcases List.mem_append.1 hf with h | h
      · exact h2 f h x hx
      · rw [List.mem_singleton] at h
        subst h
        simp only [pF, pLs, List.mem_map, List.mem_range] at hx
        obtain ⟨j, -, rfl⟩ := hx
        have := nx2_lt (((pFs k l).2.drop 4).drop (2 * j))
        omega
/-- The words. -/
def unB (b : List UInt8) : List UInt8 := (List.range 8).flatMap fun s => (b.drop (16 * s + 5)).take 11
theorem unB_len {b : List UInt8} (h : b.length = 128) : (unB b).length = 88 := by
  simp [unB, List.range_succ, List.length_take, List.length_drop, h]

/-- A summary. -/
structure PV where
  e : Int
  c : Int
  i : Int
  p : Int
  x : Int
  fs : List FI
  is : List Int
deriving DecidableEq
def PV.ck (v : PV) : Int := checkP v.e v.c v.i v.p v.x v.fs v.is
def PV.enc (v : PV) (s : Nat) : List UInt8 := encB v.e v.c (wordsB v.i v.p v.x v.fs v.is s)
def parseW (e c : Int) (W : List UInt8) : PV × Nat :=
  let r := pFs (min (nx 1 (W.drop 4)) 88) (W.drop 10)
  (⟨e, c, (nx 1 W : Nat), (nx 1 (W.drop 1) : Nat), (nx 2 (W.drop 2) : Nat), r.1, pIs (min (nx 1 (W.drop 5)) 88) r.2⟩, nx 4 (W.drop 6))
def parseC (b : List UInt8) : PV × Nat := parseW (nx 2 b : Nat) (nx 2 (b.drop 2) : Nat) (unB b)

theorem PV.gd {v : PV} (h : v.ck = 0) : gdP v.e v.c v.i v.p v.x v.fs v.is ∧ szN v.fs v.is ≤ 88 := by
  unfold PV.ck checkP at h
  by_cases h1 : gdP v.e v.c v.i v.p v.x v.fs v.is
  · rw [if_pos h1] at h
    by_cases h2 : 88 < szN v.fs v.is
    · rw [if_pos h2] at h; cases h
    · exact ⟨h1, by omega⟩
  · rw [if_neg h1] at h; cases h
theorem PV.enc_len {v : PV} (h : v.ck = 0) (s : Nat) : (v.enc s).length = 128 := encB_len (wordsB_len (PV.gd h).2)
theorem pLs_tw : ∀ (ls : List Int) (r : List UInt8), (∀ x ∈ ls, -1000 ≤ x ∧ x < 64536) → pLs ls.length ((ls.flatMap fun l => tw (l + 1000)) ++ r) = ls
  | [], _, _ => rfl
  | x :: ls, r, h => by
    have ih := pLs_tw ls r (fun y hy => h y (List.mem_cons_of_mem _ hy))
    have hx := h x List.mem_cons_self
    unfold pLs at ih ⊢
    rw [List.length_cons, List.range_succ_eq_map, List.map_cons, List.map_map]
    congr 1
    · rw [Nat.mul_zero, List.drop_zero, List.flatMap_cons, List.append_assoc, nx2_tw]
      omega
theorem gdF_ls {f : FI} (h : gdF f) : ∀ x ∈ f.ls, -605 ≤ x ∧ x < 605 := fun x hx => by
  have h1 := h.2.2.2
  have h2 : badN x = false := by
    cases hb : badN x with
    | false => rfl
    | true => rw [List.any_eq_true.2 ⟨x, hx, hb⟩] at h1; cases h1
  by_cases h3 : x < -605 ∨ 605 ≤ x
  · have := findP_out x h3
    unfold badN at h2
    rw [this] at h2
    cases h2
  · omega
theorem drop_app {α : Type} (a r : List α) (n : Nat) (h : a.length = n) : (a ++ r).drop n = r := by rw [← h, List.drop_left]
theorem pF_fileB {f : FI} (h : gdF f) (r : List UInt8) : pF (fileB f ++ r) = f ∧ lenF (fileB f ++ r) = (fileB f).length := by
  obtain ⟨h1, h2, h3, h4⟩ := id h
  have e0 : fileB f ++ r = b8 f.ino :: (tw f.ver ++ (b8 (f.ls.length : Int) :: ((f.ls.flatMap fun l => tw (l + 1000)) ++ r))) := by simp [fileB]
  have e3 : (fileB f ++ r).drop 3 = b8 (f.ls.length : Int) :: ((f.ls.flatMap fun l => tw (l + 1000)) ++ r) := by rw [e0]; rfl
  have e4 : (fileB f ++ r).drop 4 = (f.ls.flatMap fun l => tw (l + 1000)) ++ r := by rw [e0]; rfl
  have e1 : (fileB f ++ r).drop 1 = tw f.ver ++ (b8 (f.ls.length : Int) :: ((f.ls.flatMap fun l => tw (l + 1000)) ++ r)) := by rw [e0]; rfl
  have hn : nx 1 ((fileB f ++ r).drop 3) = f.ls.length := by
    have := nx1_b8 (f.ls.length : Int) ((f.ls.flatMap fun l => tw (l + 1000)) ++ r)
    rw [e3]
    omega
  refine ⟨?_, by rw [lenF, hn, fileB_len]⟩
  have hi : ((nx 1 (fileB f ++ r) : Nat) : Int) = f.ino := by rw [e0, nx1_b8]; omega
  have hv : ((nx 2 ((fileB f ++ r).drop 1) : Nat) : Int) = f.ver := by rw [e1, nx2_tw]; omega
  have hl : pLs (nx 1 ((fileB f ++ r).drop 3)) ((fileB f ++ r).drop 4) = f.ls := by
    rw [hn, e4]
    exact pLs_tw _ _ (fun x hx => by have := gdF_ls h x hx; omega)
  unfold pF
  rw [hi, hv, hl]
theorem pFs_flat (fs : List FI) (r : List UInt8) (h : ∀ f ∈ fs, gdF f) : ∀ j, j ≤ fs.length → pFs j (fs.flatMap fileB ++ r) = (fs.take j, (fs.drop j).flatMap fileB ++ r)
  | 0, _ => by simp [pFs]
  | j + 1, hj => by
    have ih := pFs_flat fs r h j (by omega)
    have hd : fs.drop j = fs[j]'(by omega) :: fs.drop (j + 1) := List.drop_eq_getElem_cons (by omega)
    obtain ⟨h1, h2⟩ := pF_fileB (h _ (List.getElem_mem (show j < fs.length by omega))) ((fs.drop (j + 1)).flatMap fileB ++ r)
    rw [pFs, ih]
    simp only [hd, List.flatMap_cons, List.append_assoc]
    rw [h1, h2, List.drop_left, List.take_succ_eq_append_getElem (by omega)]
theorem pIs_b8 : ∀ (is : List Int) (r : List UInt8), (∀ x ∈ is, 0 ≤ x ∧ x < 256) → pIs is.length (is.map b8 ++ r) = is
  | [], _, _ => rfl
  | x :: is, r, h => by
    have ih := pIs_b8 is r (fun y hy => h y (List.mem_cons_of_mem _ hy))
    have hx := h x List.mem_cons_self
    unfold pIs at ih ⊢
    rw [List.length_cons, List.range_succ_eq_map, List.map_cons, List.map_map]
    congr 1
    · rw [List.drop_zero, List.map_cons, List.cons_append, nx1_b8]
      omega
theorem sec_at {e c : Int} {w : List UInt8} (hw : w.length = 88) : ∀ k, k ≤ 8 → ∀ s, s < k → ∀ r, (((List.range k).flatMap fun s => secB e c w s) ++ r).drop (16 * s) = secB e c w s ++ ((((List.range k).flatMap fun s => secB e c w s) ++ r).drop (16 * s + 16))
  | 0, _, s, hs, _ => by omega
  | k + 1, hk, s, hs, r => by
    have hl : ∀ m, m ≤ 8 → ((List.range m).flatMap fun s => secB e c w s).length = 16 * m := by
      intro m
      induction m with
      | zero => intro _; rfl
      | succ m ih => intro hm; rw [List.range_succ, List.flatMap_append, List.length_append, ih (by omega)]; simp [secB_len hw (show m < 8 by omega)]; omega
    rw [List.range_succ, List.flatMap_append, List.append_assoc]
    by_cases h : s < k
    · exact sec_at hw k (by omega) s h _
    · have : s = k := by omega
      subst this
      rw [drop_app _ _ _ (hl s (by omega)), ← List.drop_drop, drop_app _ _ _ (hl s (by omega))]
      simp only [List.flatMap_cons, List.flatMap_nil, List.append_nil]
      rw [drop_app _ _ _ (secB_len hw (by omega))]
theorem encB_at {e c : Int} {w : List UInt8} (hw : w.length = 88) {s : Nat} (hs : s < 8) : (encB e c w).drop (16 * s) = secB e c w s ++ (encB e c w).drop (16 * s + 16) := by
  have := sec_at (e := e) (c := c) hw 8 (by omega) s hs []
  rw [List.append_nil] at this
  exact this
theorem unB_encB {e c : Int} {w : List UInt8} (hw : w.length = 88) : unB (encB e c w) = w := by
  have h : ∀ s, s < 8 → ((encB e c w).drop (16 * s + 5)).take 11 = (w.drop (11 * s)).take 11 := fun s hs => by
    rw [← List.drop_drop, encB_at hw hs]
    have e1 : secB e c w s ++ (encB e c w).drop (16 * s + 16) = (tw e ++ tw c ++ [b8 s]) ++ ((w.drop (11 * s)).take 11 ++ (encB e c w).drop (16 * s + 16)) := by simp [secB]
    rw [e1, drop_app _ _ 5 rfl]
    have hl : ((w.drop (11 * s)).take 11).length = 11 := by rw [List.length_take, List.length_drop, hw]; omega
    rw [List.take_append_of_le_length (by omega), List.take_of_length_le (by omega)]
  have hu : unB (encB e c w) = (List.range 8).flatMap fun s => (w.drop (11 * s)).take 11 := by
    unfold unB
    simp only [List.range_succ, List.range_zero, List.nil_append, List.flatMap_append, List.flatMap_cons, List.flatMap_nil, List.append_nil]
    rw [h 0 (by omega), h 1 (by omega), h 2 (by omega), h 3 (by omega), h 4 (by omega), h 5 (by omega), h 6 (by omega), h 7 (by omega)]
  rw [hu]
  have hk : ∀ k, k ≤ 8 → ((List.range k).flatMap fun s => (w.drop (11 * s)).take 11) = w.take (11 * k) := by
    intro k
    induction k with
    | zero => intro _; rfl
    | succ k ih =>
      intro hk
      rw [List.range_succ, List.flatMap_append, ih (by omega)]
      simp only [List.flatMap_cons, List.flatMap_nil, List.append_nil]
      rw [Nat.mul_succ, List.take_add]
  rw [hk 8 (by omega), List.take_of_length_le (by omega)]
theorem encB_head {e c : Int} {w : List UInt8} (hw : w.length = 88) (he : 0 ≤ e ∧ e ≤ 65535) (hc : 0 ≤ c ∧ c ≤ 65535) : ((nx 2 (encB e c w) : Nat) : Int) = e ∧ ((nx 2 ((encB e c w).drop 2) : Nat) : Int) = c := by
  have h := encB_at (e := e) (c := c) hw (s := 0) (by omega)
  rw [Nat.mul_zero, List.drop_zero] at h
  have e1 : encB e c w = tw e ++ (tw c ++ ([b8 (0 : Nat)] ++ ((w.drop (11 * 0)).take 11 ++ (encB e c w).drop (0 + 16)))) := by
    refine h.trans ?_
    simp [secB]
  constructor
  · rw [e1, nx2_tw]; omega
  · rw [e1, drop_app _ _ 2 (tw_len e), nx2_tw]; omega
theorem szN_fs {fs : List FI} {is : List Int} (h : szN fs is ≤ 88) : fs.length ≤ 19 ∧ is.length ≤ 78 := by unfold szN at h; omega
theorem parseW_words {v : PV} (h : v.ck = 0) {s : Nat} (hs : s < 4294967296) : parseW v.e v.c (wordsB v.i v.p v.x v.fs v.is s) = (v, s) := by
  obtain ⟨⟨⟨h1, h2, h3, h4, h5⟩, hf, hi⟩, hz⟩ := PV.gd h
  obtain ⟨n1, n2⟩ := szN_fs hz
  obtain ⟨R, hR⟩ : ∃ R, R = List.replicate (88 - szN v.fs v.is) (0 : UInt8) := ⟨_, rfl⟩
  have e0 : wordsB v.i v.p v.x v.fs v.is s = b8 v.i :: b8 v.p :: (tw v.x ++ (b8 (v.fs.length : Int) :: b8 (v.is.length : Int) :: (tw ((s % 65536 : Nat) : Int) ++ (tw ((s / 65536 : Nat) : Int) ++ (v.fs.flatMap fileB ++ (v.is.map b8 ++ R)))))) := by
    rw [hR]; simp [wordsB, bodyB, headB]
  have d1 : (wordsB v.i v.p v.x v.fs v.is s).drop 1 = b8 v.p :: (tw v.x ++ (b8 (v.fs.length : Int) :: b8 (v.is.length : Int) :: (tw ((s % 65536 : Nat) : Int) ++ (tw ((s / 65536 : Nat) : Int) ++ (v.fs.flatMap fileB ++ (v.is.map b8 ++ R)))))) := by rw [e0]; rfl
  have d2 : (wordsB v.i v.p v.x v.fs v.is s).drop 2 = (tw v.x ++ (b8 (v.fs.length : Int) :: b8 (v.is.length : Int) :: (tw ((s % 65536 : Nat) : Int) ++ (tw ((s / 65536 : Nat) : Int) ++ (v.fs.flatMap fileB ++ (v.is.map b8 ++ R)))))) := by rw [e0]; rfl
  have d4 : (wordsB v.i v.p v.x v.fs v.is s).drop 4 = b8 (v.fs.length : Int) :: b8 (v.is.length : Int) :: (tw ((s % 65536 : Nat) : Int) ++ (tw ((s / 65536 : Nat) : Int) ++ (v.fs.flatMap fileB ++ (v.is.map b8 ++ R)))) := by rw [e0]; rfl
  have d5 : (wordsB v.i v.p v.x v.fs v.is s).drop 5 = b8 (v.is.length : Int) :: (tw ((s % 65536 : Nat) : Int) ++ (tw ((s / 65536 : Nat) : Int) ++ (v.fs.flatMap fileB ++ (v.is.map b8 ++ R)))) := by rw [e0]; rfl
  have d6 : (wordsB v.i v.p v.x v.fs v.is s).drop 6 = (tw ((s % 65536 : Nat) : Int) ++ (tw ((s / 65536 : Nat) : Int) ++ (v.fs.flatMap fileB ++ (v.is.map b8 ++ R)))) := by rw [e0]; rfl
  have d10 : (wordsB v.i v.p v.x v.fs v.is s).drop 10 = v.fs.flatMap fileB ++ (v.is.map b8 ++ R) := by rw [e0]; rfl
  have q0 : ((nx 1 (wordsB v.i v.p v.x v.fs v.is s) : Nat) : Int) = v.i := by rw [e0, nx1_b8]; omega
  have q1 : ((nx 1 ((wordsB v.i v.p v.x v.fs v.is s).drop 1) : Nat) : Int) = v.p := by rw [d1, nx1_b8]; omega
  have q2 : ((nx 2 ((wordsB v.i v.p v.x v.fs v.is s).drop 2) : Nat) : Int) = v.x := by rw [d2, nx2_tw]; omega
  have q4 : min (nx 1 ((wordsB v.i v.p v.x v.fs v.is s).drop 4)) 88 = v.fs.length := by
    have := nx1_b8 (v.fs.length : Int) (b8 (v.is.length : Int) :: (tw ((s % 65536 : Nat) : Int) ++ (tw ((s / 65536 : Nat) : Int) ++ (v.fs.flatMap fileB ++ (v.is.map b8 ++ R)))))
    rw [d4]; omega
  have q5 : min (nx 1 ((wordsB v.i v.p v.x v.fs v.is s).drop 5)) 88 = v.is.length := by
    have := nx1_b8 (v.is.length : Int) (tw ((s % 65536 : Nat) : Int) ++ (tw ((s / 65536 : Nat) : Int) ++ (v.fs.flatMap fileB ++ (v.is.map b8 ++ R))))
    rw [d5]; omega
  have q6 : nx 4 ((wordsB v.i v.p v.x v.fs v.is s).drop 6) = s := by rw [d6, nx4_tw s hs]
  have q7 := pFs_flat v.fs (v.is.map b8 ++ R) hf v.fs.length (Nat.le_refl _)
  unfold parseW
  dsimp only
  rw [q0, q1, q2, q4, q5, q6, d10, q7, List.take_length, List.drop_length]
  simp only [List.flatMap_nil, List.nil_append]
  rw [pIs_b8 v.is R (fun x hx => by have := hi x hx; omega)]
theorem parseC_enc {v : PV} (h : v.ck = 0) {s : Nat} (hs : s < 4294967296) : parseC (v.enc s) = (v, s) := by
  obtain ⟨⟨⟨h1, h2, h3, h4, h5⟩, hf, hi⟩, hz⟩ := PV.gd h
  have hw : (wordsB v.i v.p v.x v.fs v.is s).length = 88 := wordsB_len hz
  obtain ⟨a1, a2⟩ := encB_head hw h1 h2
  unfold parseC PV.enc
  rw [a1, a2, unB_encB hw, parseW_words h hs]
theorem enc_inj {v u : PV} {s t : Nat} (h : v.ck = 0) (k : u.ck = 0) (hs : s < 4294967296) (ht : t < 4294967296) (e : v.enc s = u.enc t) : v = u ∧ s = t := by
  have h1 := parseC_enc h hs
  rw [e, parseC_enc k ht] at h1
  injection h1 with h1 h2
  exact ⟨h1.symm, h2.symm⟩
/-- Just a summary's blocks are read. -/
def IsEnc (b : List UInt8) (v : PV) (s : Nat) : Prop := v.ck = 0 ∧ s < 4294967296 ∧ b = v.enc s
theorem parse_ok (b : List UInt8) : ((parseC b).1.ck = 0 ∧ (parseC b).1.enc (parseC b).2 = b) ↔ ∃ v s, IsEnc b v s := by
  constructor
  · rintro ⟨h1, h2⟩
    exact ⟨_, _, h1, nx4_lt _, h2.symm⟩
  · rintro ⟨v, s, h1, hs, rfl⟩
    rw [parseC_enc h1 hs]
    exact ⟨h1, rfl⟩
end Go.Proofs.YtbamdibpkkponaaDoor

/- The walk over slices.Equal at []byte. -/
namespace Go.Proofs.YtbamdibpkkponaaDoor
open Go.RowKit

/-- Are two lists of bytes the same? -/
def eqB (a b : List UInt8) : Bool := decide (a = b)
theorem eqB_self (a : List UInt8) : eqB a a = true := by simp [eqB]
theorem eqB_of_ne {a b : List UInt8} (h : a ≠ b) : eqB a b = false := by simp [eqB, h]
theorem take_snoc_eqE {a b : List UInt8} {k : Nat} (ha : k < a.length) (hb : k < b.length) (h : a.take k = b.take k) (he : a[k] = b[k]) : a.take (k + 1) = b.take (k + 1) := by
  rw [List.take_succ_eq_append_getElem ha, List.take_succ_eq_append_getElem hb, h, he]

set_option maxHeartbeats 400000 in
theorem equal_any (A A' : Option Addr) (n n' c c' B B' : Nat) (l l' : List UInt8) (w : World) (h : By w B A n l) (h' : By w B' A' n' l') (hn : n ≤ 9223372036854775807) :
    Calls Tryd.prog 31 #[.slice A n c, .slice A' n' c'] w fun e w' => e = .returned (.bool (eqB l l')) ∧ ∃ k, w' = w.drewN k := by
  have H := hide h
  have H' := hide h'
  clear h h'
  by_cases hnn : n = n'
  · subst hnn
    go_enter Tryd.func31, Tryd.ntmps31
    go_wp2
    go_loopw [13] (fun i wr => ∃ k : Nat, k ≤ n ∧ i = .int .i64 k ∧ l.take k = l'.take k ∧ ∃ d, wr = w.drewN d) (fun i _ => n - (intOf i).toNat)
    case atStart => exact ⟨0, by omega, rfl, rfl, 0, rfl⟩
    case round =>
      obtain ⟨k, hk, rfl, htk, d, rfl⟩ := hrel
      have Htk := hide htk
      clear htk
      by_cases hlt : k < n
      · obtain ⟨hl, ad, rfl, hcell⟩ := By.get H.out hlt
        obtain ⟨hl', ad', rfl, hcell'⟩ := By.get H'.out hlt
        by_cases heq : l[k] = l'[k]
        · have Hsn := hide (take_snoc_eqE hl hl' Htk.out heq)
          rw [← heq] at hcell'
          clear heq
          generalize l[k].toNat = x at *
          go_wp2
          go_quiet (fail)
          go_wp2
          go_roundw
          case rel => exact ⟨k + 1, by omega, by go_num, Hsn.out, _, rfl⟩
          case measure => simp [intOf]; omega
        · have hne : ((l[k].toNat : Int) != l'[k].toNat) = true := by
            rw [bne_iff_ne]
            intro e
            exact heq (UInt8.toNat_inj.1 (by omega))
          have Hf := hide (eqB_of_ne (a := l) (b := l') (fun e => heq (by subst e; rfl)))
          clear heq
          generalize l[k].toNat = x at *
          generalize l'[k].toNat = y at *
          go_wp2
          go_quiet (fail)
          go_wp2
          go_ret
          exact ⟨by rw [Hf.out]; rfl, _, World.drewN_drewN _ _ _⟩
      · have Hl := hide (By.length H.out)
        have Hl' := hide (By.length H'.out)
        have Hf := hide (show l = l' by
          have := Htk.out
          rwa [List.take_of_length_le (by rw [Hl.out]; omega), List.take_of_length_le (by rw [Hl'.out]; omega)] at this)
        go_wp2
        go_ret
        exact ⟨by rw [Hf.out, eqB_self]; rfl, _, rfl⟩
  · have hne : ((n : Int) != n') = true := by rw [bne_iff_ne]; omega
    have Hf := hide (eqB_of_ne (a := l) (b := l') (fun e => hnn (by rw [← By.length H.out, ← By.length H'.out, e])))
    clear hnn
    go_enter Tryd.func31, Tryd.ntmps31
    go_wp2
    go_ret
    exact ⟨by rw [Hf.out]; rfl, 0, rfl⟩

/-- New memory of the call: bytes in a row of their own. -/
abbrev OwnBy (w : World) (base : Nat) (A : Option Addr) (n c : Nat) (l : List UInt8) : Prop := w.ownsRow base 5 1 (.slice A n c) n (u8s l)
theorem OwnBy.by {w : World} {base n c : Nat} {A : Option Addr} {l : List UInt8} (h : OwnBy w base A n c l) : By w w.heap.size A n l := Sl.of_own h
end Go.Proofs.YtbamdibpkkponaaDoor

/- (Printed by gen_smcat.py.) The walks over slices.Grow and slices.Concat at []byte. -/
namespace Go.Proofs.YtbamdibpkkponaaDoor
open Go.RowKit

set_option maxHeartbeats 400000 in
theorem grow_nil (m : Nat) (hm : m ≤ 1099511627776) (w : World) :
    Calls Tryd.prog 35 #[.slice none 0 0, .int .i64 m] w fun e w' => ∃ A c, e = .returned (.slice A 0 c) ∧ OwnBy w' w.heap.size A 0 c [] ∧ Below w.heap.size w w' := by
  by_cases h0 : m = 0
  · subst h0
    go_enter Tryd.func35, Tryd.ntmps35
    go_wp2
    go_ret
    exact ⟨none, 0, rfl, World.ownsRow_nil _ _ _ _, Below.refl _ _⟩
  · have hpos : 0 < m := by omega
    obtain ⟨A1, c1, w1, hr, hown, hg, _⟩ := run_app_zeros (P := Tryd.prog) w (ty := 30) (kq := .i64) etyB rfl rfl Tryd.underlying3 w.heap.size (.slice none 0 0) 0 [] (World.ownsRow_nil _ _ _ _) m (by omega) (Nat.le_refl _)
    have hcap : 0 ≤ c1 := Nat.zero_le _
    have hs0 : ∀ W, (Instr.slice 30 (.slice A1 m c1) none (some (.int .i64 0)) none).run Tryd.prog W = .ok (.slice A1 0 c1) W := fun W => run_cut_h etyB A1 m c1 W 0 .i64 hcap
    have hown' := hide (own_head hown (Nat.zero_le _))
    have hb := hide ((Below.refl w.heap.size w).grown hg (Nat.le_refl _) (fun k hk => by simp [Value.ownBlock] at hk))
    clear hown hg hcap
    simp only [Nat.zero_add] at hr
    clear h0
    go_enter Tryd.func35, Tryd.ntmps35
    go_wp2_with (
      at_builtin
      refine Lib.wpList_append_run _ rfl (.tmp 20) (.tmp 21) _ _ rfl _ _ rfl rfl _ _ hr ?_)
    go_ret
    exact ⟨A1, c1, rfl, hown'.out, hb.out⟩

/-- One list among several: its value's parts, and its bytes. -/
structure Row where
  a : Option Addr
  n : Nat
  c : Nat
  l : List UInt8
def Row.v (r : Row) : Value := .slice r.a r.n r.c
def rowsN (rs : List Row) : Nat := (rs.map Row.n).sum
def rowsL (rs : List Row) : List UInt8 := rs.flatMap Row.l
theorem rowsN_snoc {rs : List Row} {k : Nat} (hk : k < rs.length) : rowsN (rs.take (k + 1)) = rowsN (rs.take k) + rs[k].n := by
  unfold rowsN; rw [List.take_succ_eq_append_getElem hk]; simp only [List.map_append, List.sum_append, List.map_cons, List.map_nil, List.sum_cons, List.sum_nil, Nat.add_zero]
theorem rowsL_snoc {rs : List Row} {k : Nat} (hk : k < rs.length) : rowsL (rs.take (k + 1)) = rowsL (rs.take k) ++ rs[k].l := by
  unfold rowsL; rw [List.take_succ_eq_append_getElem hk]; simp only [List.flatMap_append, List.flatMap_cons, List.flatMap_nil, List.append_nil]
theorem rowsN_le (rs : List Row) (k : Nat) : rowsN (rs.take k) ≤ rowsN rs := by
  have h : rowsN rs = rowsN (rs.take k) + rowsN (rs.drop k) := by
    conv => lhs; rw [← List.take_append_drop k rs]
    simp only [rowsN, List.map_append, List.sum_append]
  omega

set_option maxHeartbeats 1000000 in
theorem concat_any (rs : List Row) (A : Option Addr) (m c B : Nat) (w : World) (h : Sl w B A m (rs.map Row.v)) (hr : ∀ r ∈ rs, By w B r.a r.n r.l) (hB : B ≤ w.heap.size)
    (hN : rowsN rs ≤ 1099511627776) (hm : m ≤ 1099511627776) :
    Calls Tryd.prog 23 #[.slice A m c] w fun e w' => ∃ A' c', e = .returned (.slice A' (rowsN rs) c') ∧ OwnBy w' w.heap.size A' (rowsN rs) c' (rowsL rs) ∧ Below w.heap.size w w' := by
  have H := hide h
  have Hr := hide hr
  have Hlen := hide (show rs.length = m by have := h.len; simpa using this)
  have hB' := hB
  clear h hr
  go_enter Tryd.func23, Tryd.ntmps23
  go_wp2
  go_loop [3, 11] (fun s i => ∃ k : Nat, k ≤ m ∧ i = .int .i64 k ∧ s = .int .i64 (rowsN (rs.take k) : Nat)) (fun _ i => m - (intOf i).toNat)
  case atStart => exact ⟨0, by omega, rfl, rfl⟩
  case round =>
    obtain ⟨k, hk, rfl, rfl⟩ := hrel
    have hle := rowsN_le rs k
    by_cases hlt : k < m
    · obtain ⟨ad, u, rfl, _, hu, hcell⟩ := H.out.get hlt
      have hk2 : k < rs.length := by rw [Hlen.out]; exact hlt
      rw [List.getElem?_map, List.getElem?_eq_getElem hk2] at hu
      simp only [Option.map_some, Option.some.injEq] at hu
      subst hu
      have hsn := hide (rowsN_snoc hk2)
      have hle2 := rowsN_le rs (k + 1)
      rw [hsn.out] at hle2
      simp only [Row.v] at hcell
      generalize rs[k] = r at *
      clear hk2
      generalize rowsN (rs.take k) = s at *
      go_wp2
      go_round
      case rel => exact ⟨k + 1, by omega, by go_num, by rw [hsn.out]; go_num⟩
      case measure => simp [intOf]; omega
    · have Hk := hide (show rs.take k = rs from List.take_of_length_le (by rw [Hlen.out]; omega))
      rw [Hk.out]
      have hN0 := hN
      go_wp2_with fail
      refine (grow_nil _ hN _).mono ?_
      rintro e w1 ⟨A1, c1, rfl, hown1, hb1⟩
      have Hown1 := hide hown1
      clear hown1
      go_wp2
      go_loopw [6, 27] (fun v i wr => ∃ k : Nat, k ≤ m ∧ i = .int .i64 k ∧ ∃ A2 c2, v = .slice A2 (rowsN (rs.take k)) c2 ∧ OwnBy wr w.heap.size A2 (rowsN (rs.take k)) c2 (rowsL (rs.take k)) ∧ Below w.heap.size w wr) (fun _ i _ => m - (intOf i).toNat)
      case atStart => exact ⟨0, by omega, rfl, A1, c1, rfl, Hown1.out, hb1⟩
      case round =>
        clear hb1 Hown1 hle hlt hk Hk
        obtain ⟨k2, hk, rfl, A2, c2, rfl, hown2, hb2⟩ := hrel
        have Hown2 := hide hown2
        have Hb2 := hide hb2
        clear hown2 hb2
        have hle := rowsN_le rs k2
        by_cases hlt : k2 < m
        · obtain ⟨ad, u, rfl, _, hu, hcell⟩ := (H.out.below (Hb2.out.mono hB')).get hlt
          have hk2 : k2 < rs.length := by rw [Hlen.out]; exact hlt
          rw [List.getElem?_map, List.getElem?_eq_getElem hk2] at hu
          simp only [Option.map_some, Option.some.injEq] at hu
          subst hu
          have hby := hide ((Hr.out _ (List.getElem_mem hk2)).below (Hb2.out.mono hB'))
          have hsn := hide (rowsN_snoc hk2)
          have hsl := hide (rowsL_snoc hk2)
          have hle2 := rowsN_le rs (k2 + 1)
          rw [hsn.out] at hle2
          simp only [Row.v] at hcell
          generalize rs[k2] = r at *
          clear hk2
          generalize rowsN (rs.take k2) = s at *
          go_wp2_with (
            at_builtin
            refine wpList_app _ rfl (.tmp 31) (.tmp 32) _ rfl etyB w.heap.size (.slice A2 s c2) s (u8s (rowsL (rs.take k2))) rfl Hown2.out B r.a r.n r.c (u8s r.l) rfl
              hby.out (u8s_one _) (by omega) Hb2.out.size ?_
            intro A3 c3 w3 hown3 hg3 _)
          go_roundw
          case rel =>
            refine ⟨k2 + 1, by omega, by go_num, A3, c3, by rw [hsn.out], ?_, Hb2.out.grown hg3 Hb2.out.size (fun g hg => (Hown2.out.lt g hg).1)⟩
            rw [hsn.out, hsl.out, OwnBy, u8s_append]
            exact hown3
          case measure => simp [intOf]; omega
        · have Hk := hide (show rs.take k2 = rs from List.take_of_length_le (by rw [Hlen.out]; omega))
          rw [Hk.out] at Hown2
          rw [Hk.out]
          go_wp2
          go_ret
          exact ⟨A2, c2, rfl, Hown2.out, Hb2.out⟩
end Go.Proofs.YtbamdibpkkponaaDoor
