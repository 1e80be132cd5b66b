/- The walks over summary's within, file, Check. (Printed by gen_smck.py.) -/
import Derived.Test.YtopjkpopdffkeaaDoorSumSzW
import Derived.Test.YtopjkpopdffkeaaDoorIdxLW
set_option linter.unusedVariables false
set_option linter.unusedSimpArgs false
namespace Go.Proofs.YtopjkpopdffkeaaDoor
open Go.RowKit
attribute [local go_sem ↓] Go.wp_at_zero Go.wp_at_succ

theorem within_any (n lo hi : Int) (w : World) : Calls Tryd.prog 10 #[.int .i64 n, .int .i64 lo, .int .i64 hi] w fun e w' => e = .returned (.bool (decide (lo ≤ n ∧ n ≤ hi))) ∧ Below w.heap.size w w' := by
  by_cases h1 : lo ≤ n
  · by_cases h2 : n ≤ hi
    · rw [decide_eq_true (show lo ≤ n ∧ n ≤ hi from ⟨h1, h2⟩)]
      go_enter Tryd.func10, Tryd.ntmps10
      go_wp2_with fail
      go_ret
      exact ⟨rfl, Below.refl _ _⟩
    · rw [decide_eq_false (show ¬ (lo ≤ n ∧ n ≤ hi) from fun h => h2 h.2)]
      go_enter Tryd.func10, Tryd.ntmps10
      go_wp2_with fail
      go_ret
      exact ⟨rfl, Below.refl _ _⟩
  · rw [decide_eq_false (show ¬ (lo ≤ n ∧ n ≤ hi) from fun h => h1 h.1)]
    go_enter Tryd.func10, Tryd.ntmps10
    go_wp2_with fail
    go_ret
    exact ⟨rfl, Below.refl _ _⟩
theorem within_yes {n lo hi : Int} (h : lo ≤ n ∧ n ≤ hi) (w : World) : Calls Tryd.prog 10 #[.int .i64 n, .int .i64 lo, .int .i64 hi] w fun e w' => e = .returned (.bool true) ∧ Below w.heap.size w w' := by
  have := within_any n lo hi w
  rwa [decide_eq_true h] at this
theorem within_no {n lo hi : Int} (h : ¬ (lo ≤ n ∧ n ≤ hi)) (w : World) : Calls Tryd.prog 10 #[.int .i64 n, .int .i64 lo, .int .i64 hi] w fun e w' => e = .returned (.bool false) ∧ Below w.heap.size w w' := by
  have := within_any n lo hi w
  rwa [decide_eq_false h] at this
/-- It is no block's number. -/
def badN (n : Int) : Bool := (findP n).isNone
theorem bad_any (n : Int) (hn : I64 n) (w : World) (sp : SpanAt w) : Calls Tryd.prog 17 #[.int .i64 n] w fun e w' => e = .returned (.bool (badN n)) ∧ Below w.heap.size w w' := by
  rcases hF : findP n with _ | ⟨l, f⟩
  · have C := hide (level_no n hn hF w sp)
    have hb : badN n = true := by unfold badN; rw [hF]; rfl
    rw [hb]
    clear hF hn sp hb
    go_enter Tryd.func17, Tryd.ntmps17
    go_wp2_with fail
    refine C.out.mono ?_
    rintro e w' ⟨rfl, hb⟩
    have B := hide hb
    clear hb
    go_wp2_with fail
    go_ret
    exact ⟨rfl, B.out⟩
  · have C := hide (level_yes n hn hF w sp)
    have hb : badN n = false := by unfold badN; rw [hF]; rfl
    rw [hb]
    clear hF hn sp hb
    go_enter Tryd.func17, Tryd.ntmps17
    go_wp2_with fail
    refine C.out.mono ?_
    rintro e w' ⟨rfl, hb⟩
    have B := hide hb
    clear hb
    go_wp2_with fail
    go_ret
    exact ⟨rfl, B.out⟩
theorem entersK {K : FuncId} {fn : Func} (hf : Tryd.prog.funcs[K]? = some fn) (hn : (fn.name == "runtime.NumGoroutine") = false) (hb : fn.body.isSome = true) : ∀ args w', (callFunc K args).run Tryd.prog w' = .ok (.enter K args) w' := by
  intro args w'
  have hne : fn.name ≠ "runtime.NumGoroutine" := fun e => by rw [e] at hn; simp at hn
  obtain ⟨c, hb⟩ := Option.isSome_iff_exists.1 hb
  simp [callFunc, hf, hne, hb]
theorem bad_enters : ∀ args w', (callFunc 17 args).run Tryd.prog w' = .ok (.enter 17 args) w' :=
  entersK (fn := Tryd.f17) (by kernel_rfl) (by kernel_rfl) (by kernel_rfl)
set_option maxRecDepth 100000 in
set_option maxHeartbeats 1000000 in
theorem idxf_any (A : Option Addr) (n c lo base : Nat) (l : List Int) (w : World) (sp : SpanAt w) (h : IntsAt lo base w A n l) (hn : n ≤ 1000000) (hl : ∀ x ∈ l, I64 x) :
    Calls Tryd.prog 24 #[.slice A n c, .func (.func 17) #[] #[]] w fun e w' => (∃ r : Int, e = .returned (.int .i64 r) ∧ (0 ≤ r ↔ l.any badN = true)) ∧ Below w.heap.size w w' := by
  have H := hide h
  have HL := hide hl
  have HLN := hide (IntsAt.len h)
  have SP := hide sp
  have hen := bad_enters
  clear h hl sp
  go_enter Tryd.func24, Tryd.ntmps24
  go_wp2_with fail
  go_loopw [8] (fun y wr => ∃ j : Nat, j ≤ n ∧ y = .int .i64 (j : Int) ∧ (l.take j).any badN = false ∧ Below w.heap.size w wr) (fun y _ => n - (intOf y).toNat)
  case atStart => exact ⟨0, Nat.zero_le _, rfl, rfl, Below.refl _ _⟩
  case round =>
    obtain ⟨j, hj, rfl, hno, hb⟩ := hrel
    have HNO := hide hno
    have HB := hide hb
    clear hno hb
    by_cases hlt : j < n
    · obtain ⟨zn, hzn⟩ : ∃ x, l[j]? = some x := ⟨_, List.getElem?_eq_getElem (by rw [HLN.out]; exact hlt)⟩
      obtain ⟨b, off, hA, -, hc⟩ := RwAt.at (RwAt.below H.out HB.out) (by omega) (by decide)
      have z0 := hc j (.int .i64 zn) (by rw [intC, List.getElem?_map, hzn]; rfl)
      subst hA
      have HZN := hide hzn
      have hz64 := hide (HL.out zn (List.mem_of_getElem? hzn))
      have hjs : (j : Int) < (n : Int) := by omega
      have hj64 : IntKind.i64.wrap (j : Int) = (j : Int) := by rw [IntKind.wrap_i64]; omega
      clear hzn hc
      go_wp2_with fail
      refine (bad_any zn hz64.out wr (SP.out.bel HB.out)).mono ?_
      rintro e w5 ⟨rfl, hb⟩
      have B5 := hide (HB.out.trans (hb.mono HB.out.size))
      clear hb
      cases hbz : badN zn with
      | true =>
        have HBZ := hide hbz
        clear hbz
        go_wp2_with fail
        go_ret
        exact ⟨⟨_, rfl, ⟨fun _ => List.any_eq_true.2 ⟨zn, List.mem_of_getElem? HZN.out, HBZ.out⟩, fun _ => Int.natCast_nonneg j⟩⟩, B5.out⟩
      | false =>
        have HBZ := hide hbz
        clear hbz
        go_wp2_with fail
        go_roundw
        case rel => exact ⟨j + 1, by omega, by go_num, by rw [List.take_add_one, HZN.out, List.any_append, HNO.out]; simp [HBZ.out], B5.out⟩
        case measure => simp [intOf]; omega
    · have hjn : j = n := by omega
      have hno : l.any badN = false := by
        have := HNO.out
        rwa [hjn, ← HLN.out, List.take_length] at this
      have HN := hide hno
      clear hno hjn
      go_wp2_with fail
      go_ret
      exact ⟨⟨_, rfl, ⟨fun h => absurd h (by decide), fun h => by rw [HN.out] at h; cases h⟩⟩, HB.out⟩
theorem conf_any (A : Option Addr) (n c lo base : Nat) (l : List Int) (w : World) (sp : SpanAt w) (h : IntsAt lo base w A n l) (hn : n ≤ 1000000) (hl : ∀ x ∈ l, I64 x) :
    Calls Tryd.prog 19 #[.slice A n c, .func (.func 17) #[] #[]] w fun e w' => e = .returned (.bool (l.any badN)) ∧ Below w.heap.size w w' := by
  have C := hide (idxf_any A n c lo base l w sp h hn hl)
  clear h hl sp
  go_enter Tryd.func19, Tryd.ntmps19
  go_wp2_with fail
  refine C.out.mono ?_
  rintro e w' ⟨⟨r, rfl, hr⟩, hb⟩
  have B := hide hb
  have HR := hide hr
  clear hb hr
  by_cases h0 : 0 ≤ r
  · have hv := hide (HR.out.1 h0)
    go_wp2_with fail
    go_ret
    exact ⟨by rw [hv.out]; rfl, B.out⟩
  · have hv : l.any badN = false := by
      cases h : l.any badN with
      | true => exact absurd (HR.out.2 h) h0
      | false => rfl
    have hv := hide hv
    go_wp2_with fail
    go_ret
    exact ⟨by rw [hv.out]; exact congrArg (fun b => Ending.returned (Value.bool b)) (decide_eq_false (by omega)), B.out⟩
def gdF (f : FI) : Prop := (1 ≤ f.ino ∧ f.ino ≤ 200) ∧ (0 ≤ f.ver ∧ f.ver ≤ 65535) ∧ (1 ≤ (f.ls.length : Int) ∧ (f.ls.length : Int) ≤ 30) ∧ f.ls.any badN = false
instance (f : FI) : Decidable (gdF f) := by unfold gdF; infer_instance
set_option maxRecDepth 100000 in
set_option maxHeartbeats 1000000 in
theorem file_any (f : FI) (A : Option Addr) (c lo base : Nat) (w : World) (sp : SpanAt w) (h : IntsAt lo base w A f.ls.length f.ls) (hn : f.ls.length ≤ 1000000) (hl : ∀ x ∈ f.ls, I64 x) :
    Calls Tryd.prog 11 #[.agg #[.int .i64 f.ino, .int .i64 f.ver, .slice A f.ls.length c]] w fun e w' => e = .returned (.bool (decide (gdF f))) ∧ Below w.heap.size w w' := by
  have HNO := hide (show ¬ gdF f → decide (gdF f) = false from fun h => decide_eq_false h)
  have HYES := hide (show gdF f → decide (gdF f) = true from fun h => decide_eq_true h)
  have H := hide h
  have HL := hide hl
  have SP := hide sp
  obtain ⟨m, hm⟩ : ∃ x, x = f.ls.length := ⟨_, rfl⟩
  rw [← hm] at H hn ⊢
  have HM := hide hm
  clear h hl sp hm
  obtain ⟨w1, hw1⟩ : ∃ W, W = w.alloc (.cells #[.int .i64 f.ino, .int .i64 f.ver, .slice A m c] 28) := ⟨_, rfl⟩
  have K1 : Hid (Blk w1 w.heap.size 28 #[.int .i64 f.ino, .int .i64 f.ver, .slice A m c]) := hide (by rw [hw1]; exact Blk.new _ _ _)
  have B1 : Hid (Below w.heap.size w w1) := hide (by rw [hw1]; exact (Below.refl _ _).alloc (Nat.le_refl _) _)
  have CC := hide (fun (W : World) (hb : Below w1.heap.size w1 W) => show W.cell? ⟨w.heap.size, 0, none⟩ = some (.int .i64 f.ino) ∧ W.cell? ⟨w.heap.size, 1, none⟩ = some (.int .i64 f.ver) ∧ W.cell? ⟨w.heap.size, 2, none⟩ = some (.slice A m c) from ⟨(K1.out.below hb).cell 0, (K1.out.below hb).cell 1, (K1.out.below hb).cell 2⟩)
  go_enter Tryd.func11, Tryd.ntmps11
  go_upto_region 1 with fail
  rw [← hw1]
  clear hw1
  obtain ⟨x0, x1, x2⟩ := CC.out w1 (Below.refl _ _)
  go_wp2_with fail
  by_cases h1 : 1 ≤ f.ino ∧ f.ino ≤ 200
  rotate_left
  · refine (within_no h1 w1).mono ?_
    rintro e w2 ⟨rfl, hb⟩
    have B2 := hide (B1.out.trans (hb.mono B1.out.size))
    clear hb x0 x1 x2
    have hr := hide (HNO.out (fun h => h1 h.1))
    clear h1
    go_wp2_with fail
    go_ret
    exact ⟨by rw [hr.out]; rfl, B2.out⟩
  refine (within_yes h1 w1).mono ?_
  rintro e w2 ⟨rfl, hb⟩
  have C2 := hide hb
  clear hb x0 x1 x2
  have H1 := hide h1
  clear h1
  obtain ⟨x0, x1, x2⟩ := CC.out w2 C2.out
  go_wp2_with fail
  by_cases h2 : 0 ≤ f.ver ∧ f.ver ≤ 65535
  rotate_left
  · refine (within_no h2 w2).mono ?_
    rintro e w3 ⟨rfl, hb⟩
    have B2 := hide (B1.out.trans ((C2.out.trans (hb.mono C2.out.size)).mono B1.out.size))
    clear hb x0 x1 x2
    have hr := hide (HNO.out (fun h => h2 h.2.1))
    clear h2
    go_wp2_with fail
    go_ret
    exact ⟨by rw [hr.out]; rfl, B2.out⟩
  refine (within_yes h2 w2).mono ?_
  rintro e w3 ⟨rfl, hb⟩
  have C3 := hide (C2.out.trans (hb.mono C2.out.size))
  clear hb x0 x1 x2
  have H2 := hide h2
  clear h2
  obtain ⟨x0, x1, x2⟩ := CC.out w3 C3.out
  go_wp2_with fail
  by_cases h3 : 1 ≤ (m : Int) ∧ (m : Int) ≤ 30
  rotate_left
  · refine (within_no h3 w3).mono ?_
    rintro e w4 ⟨rfl, hb⟩
    have B2 := hide (B1.out.trans ((C3.out.trans (hb.mono C3.out.size)).mono B1.out.size))
    clear hb x0 x1 x2
    have hr := hide (HNO.out (fun h => h3 (by rw [HM.out]; exact h.2.2.1)))
    clear h3
    go_wp2_with fail
    go_ret
    exact ⟨by rw [hr.out]; rfl, B2.out⟩
  refine (within_yes h3 w3).mono ?_
  rintro e w4 ⟨rfl, hb⟩
  have C4 := hide (C3.out.trans (hb.mono C3.out.size))
  clear hb x0 x1 x2
  have H3 := hide h3
  clear h3
  obtain ⟨x0, x1, x2⟩ := CC.out w4 C4.out
  go_wp2_with fail
  have B4 := hide (B1.out.trans (C4.out.mono B1.out.size))
  refine (conf_any A m c _ _ f.ls w4 (SP.out.bel B4.out) (RwAt.below H.out B4.out) hn HL.out).mono ?_
  rintro e w5 ⟨rfl, hb⟩
  have B5 := hide (B4.out.trans (hb.mono B4.out.size))
  clear hb x0 x1 x2
  cases hv : f.ls.any badN with
  | true =>
    have hr := hide (HNO.out (fun h => by have := h.2.2.2; rw [hv] at this; cases this))
    clear hv
    go_wp2_with fail
    go_ret
    exact ⟨by rw [hr.out]; rfl, B5.out⟩
  | false =>
    have hr := hide (HYES.out ⟨H1.out, H2.out, by rw [← HM.out]; exact H3.out, hv⟩)
    clear hv
    go_wp2_with fail
    go_ret
    exact ⟨by rw [hr.out]; rfl, B5.out⟩
def gdH (e c i p x : Int) : Prop := (0 ≤ e ∧ e ≤ 65535) ∧ (0 ≤ c ∧ c ≤ 65535) ∧ (1 ≤ p ∧ p ≤ 64) ∧ (0 ≤ i ∧ i ≤ p - 1) ∧ (0 ≤ x ∧ x ≤ 4095)
instance (e c i p x : Int) : Decidable (gdH e c i p x) := by unfold gdH; infer_instance
def gdP (e c i p x : Int) (fs : List FI) (is : List Int) : Prop := gdH e c i p x ∧ (∀ f ∈ fs, gdF f) ∧ ∀ n ∈ is, 1 ≤ n ∧ n ≤ 200
instance (e c i p x : Int) (fs : List FI) (is : List Int) : Decidable (gdP e c i p x fs is) := by unfold gdP; infer_instance
def checkP (e c i p x : Int) (fs : List FI) (is : List Int) : Int := if gdP e c i p x fs is then (if 88 < szN fs is then 27 else 0) else 22
def okF (f : FI) : Bool := decide (gdF f)
def okN (n : Int) : Bool := decide (1 ≤ n ∧ n ≤ 200)
theorem all_takeB {α : Type} {P : α → Bool} {l : List α} {j : Nat} {x : α} (hx : l[j]? = some x) : (l.take (j + 1)).all P = ((l.take j).all P && P x) := by
  rw [List.take_add_one, hx, List.all_append]
  simp
theorem okP_iff (fs : List FI) (is : List Int) : (fs.all okF && is.all okN) = true ↔ (∀ f ∈ fs, gdF f) ∧ ∀ n ∈ is, 1 ≤ n ∧ n ≤ 200 := by
  rw [Bool.and_eq_true, List.all_eq_true, List.all_eq_true]
  exact ⟨fun h => ⟨fun f hf => of_decide_eq_true (h.1 f hf), fun n hn => of_decide_eq_true (h.2 n hn)⟩, fun h => ⟨fun f hf => decide_eq_true (h.1 f hf), fun n hn => decide_eq_true (h.2 n hn)⟩⟩
set_option maxRecDepth 100000 in
set_option maxHeartbeats 8000000 in
theorem check_any (e c i p x : Int) (A1 A2 : Option Addr) (n1 c1 n2 c2 lo base lo2 base2 : Nat) (fs : List FI) (is : List Int) (w : World) (sp : SpanAt w) (hf : FisAt lo base w A1 n1 fs) (hi : IntsAt lo2 base2 w A2 n2 is) (hn1 : n1 ≤ 1000) (hn2 : n2 ≤ 100000) (hls : lsN fs ≤ 100000)
    (h64 : ∀ f ∈ fs, ∀ x ∈ f.ls, I64 x) :
    Calls Tryd.prog 6 #[.agg (partC e c i p x A1 n1 c1 A2 n2 c2)] w fun r w' => r = .returned (.int .i64 (checkP e c i p x fs is)) ∧ Below w.heap.size w w' := by
  have HF := hide hf
  have HI := hide hi
  have HLS := hide hls
  have H64 := hide h64
  have HL1 := hide hf.len
  have HL2 := hide (IntsAt.len hi)
  have SP := hide sp
  have HB22 := hide (show ¬ gdP e c i p x fs is → checkP e c i p x fs is = 22 from fun h => by unfold checkP; rw [if_neg h])
  clear hf hi hls h64 sp
  obtain ⟨w1, hw1⟩ : ∃ W, W = w.alloc (.cells #[.int .i64 e, .int .i64 c, .int .i64 i, .int .i64 p, .int .i64 x, .slice A1 n1 c1, .slice A2 n2 c2] 32) := ⟨_, rfl⟩
  have K1 : Hid (Blk w1 w.heap.size 32 #[.int .i64 e, .int .i64 c, .int .i64 i, .int .i64 p, .int .i64 x, .slice A1 n1 c1, .slice A2 n2 c2]) := hide (by rw [hw1]; exact Blk.new _ _ _)
  have B1 : Hid (Below w.heap.size w w1) := hide (by rw [hw1]; exact (Below.refl _ _).alloc (Nat.le_refl _) _)
  have CC := hide (fun (W : World) (hb : Below w1.heap.size w1 W) => show W.cell? ⟨w.heap.size, 0, none⟩ = some (.int .i64 e) ∧ W.cell? ⟨w.heap.size, 1, none⟩ = some (.int .i64 c) ∧ W.cell? ⟨w.heap.size, 2, none⟩ = some (.int .i64 i) ∧ W.cell? ⟨w.heap.size, 3, none⟩ = some (.int .i64 p) ∧ W.cell? ⟨w.heap.size, 4, none⟩ = some (.int .i64 x) ∧ W.cell? ⟨w.heap.size, 5, none⟩ = some (.slice A1 n1 c1) ∧ W.cell? ⟨w.heap.size, 6, none⟩ = some (.slice A2 n2 c2) from
    ⟨(K1.out.below hb).cell 0, (K1.out.below hb).cell 1, (K1.out.below hb).cell 2, (K1.out.below hb).cell 3, (K1.out.below hb).cell 4, (K1.out.below hb).cell 5, (K1.out.below hb).cell 6⟩)
  unfold partC
  go_enter Tryd.func6, Tryd.ntmps6
  go_upto_region 1 with fail
  rw [← hw1]
  clear hw1
  have C0 := hide (Below.refl w1.heap.size w1)
  obtain ⟨x0, x1, x2, x3, x4, x5, x6⟩ := CC.out w1 C0.out
  go_wp2_with fail
  by_cases h0 : 0 ≤ e ∧ e ≤ 65535
  rotate_left
  · refine (within_no h0 w1).mono ?_
    rintro r wk ⟨rfl, hb⟩
    have CK := hide (C0.out.trans (hb.mono C0.out.size))
    clear hb x0 x1 x2 x3 x4 x5 x6
    have HK := hide h0
    clear h0
    have hr := hide (HB22.out (fun h => HK.out (h.1.1)))
    obtain ⟨x0, x1, x2, x3, x4, x5, x6⟩ := CC.out wk CK.out
    go_wp2_with fail
    clear x0 x1 x2 x3 x4 x5 x6
    go_loopw [3, 37] (fun v y wr => ∃ j : Nat, j ≤ n1 ∧ y = .int .i64 (j : Int) ∧ v = .bool false ∧ Below w1.heap.size w1 wr) (fun _ y _ => n1 - (intOf y).toNat)
    case atStart => exact ⟨0, Nat.zero_le _, rfl, rfl, CK.out⟩
    case round =>
      obtain ⟨j, hj, rfl, rfl, hb⟩ := hrel
      have HB := hide hb
      clear hb
      by_cases hlt : j < n1
      · obtain ⟨b5, off5, f, A5, c5, hA5, hFr, hfi, hI5, z0, z1, z2⟩ := (HF.out.below (B1.out.trans (HB.out.mono B1.out.size))).at hlt
        subst hA5
        obtain ⟨m5, hm5⟩ : ∃ z, z = f.ls.length := ⟨_, rfl⟩
        rw [← hm5] at z2
        have hjs : (j : Int) < (n1 : Int) := by omega
        have hj64 : IntKind.i64.wrap (j : Int) = (j : Int) := by rw [IntKind.wrap_i64]; omega
        clear hFr hfi hI5 hm5
        go_wp2_with fail
        go_roundw
        case rel => exact ⟨j + 1, by omega, by go_num, rfl, HB.out.alloc HB.out.size _⟩
        case measure => simp [intOf]; omega
      · obtain ⟨x0, x1, x2, x3, x4, x5, x6⟩ := CC.out wr HB.out
        go_wp2_with fail
        clear x0 x1 x2 x3 x4 x5 x6
        go_loopw [3, 50] (fun v y wr => ∃ j : Nat, j ≤ n2 ∧ y = .int .i64 (j : Int) ∧ v = .bool false ∧ Below w1.heap.size w1 wr) (fun _ y _ => n2 - (intOf y).toNat)
        case atStart => exact ⟨0, Nat.zero_le _, rfl, rfl, HB.out⟩
        case round =>
          obtain ⟨k, hk, rfl, rfl, hb⟩ := hrel
          have HB2 := hide hb
          clear hb
          by_cases hlt2 : k < n2
          · obtain ⟨b6, off6, hA6, -, hc6⟩ := RwAt.at (RwAt.below HI.out (B1.out.trans (HB2.out.mono B1.out.size))) (by omega) (by decide)
            have z6 := hc6 k (.int .i64 (is[k]'(by rw [HL2.out]; exact hlt2))) (by rw [intC, List.getElem?_map, List.getElem?_eq_getElem (by rw [HL2.out]; exact hlt2)]; rfl)
            subst hA6
            have hks : (k : Int) < (n2 : Int) := by omega
            have hk64 : IntKind.i64.wrap (k : Int) = (k : Int) := by rw [IntKind.wrap_i64]; omega
            clear hc6
            go_wp2_with fail
            go_roundw
            case rel => exact ⟨k + 1, by omega, by go_num, rfl, HB2.out⟩
            case measure => simp [intOf]; omega
          · go_wp2_with fail
            go_ret
            exact ⟨by rw [hr.out]; rfl, B1.out.trans (HB2.out.mono B1.out.size)⟩
  refine (within_yes h0 w1).mono ?_
  rintro r w2 ⟨rfl, hb⟩
  have C1 := hide (C0.out.trans (hb.mono C0.out.size))
  clear hb x0 x1 x2 x3 x4 x5 x6
  have H0 := hide h0
  clear h0
  obtain ⟨x0, x1, x2, x3, x4, x5, x6⟩ := CC.out w2 C1.out
  go_wp2_with fail
  by_cases h1 : 0 ≤ c ∧ c ≤ 65535
  rotate_left
  · refine (within_no h1 w2).mono ?_
    rintro r wk ⟨rfl, hb⟩
    have CK := hide (C1.out.trans (hb.mono C1.out.size))
    clear hb x0 x1 x2 x3 x4 x5 x6
    have HK := hide h1
    clear h1
    have hr := hide (HB22.out (fun h => HK.out (h.1.2.1)))
    obtain ⟨x0, x1, x2, x3, x4, x5, x6⟩ := CC.out wk CK.out
    go_wp2_with fail
    clear x0 x1 x2 x3 x4 x5 x6
    go_loopw [3, 37] (fun v y wr => ∃ j : Nat, j ≤ n1 ∧ y = .int .i64 (j : Int) ∧ v = .bool false ∧ Below w1.heap.size w1 wr) (fun _ y _ => n1 - (intOf y).toNat)
    case atStart => exact ⟨0, Nat.zero_le _, rfl, rfl, CK.out⟩
    case round =>
      obtain ⟨j, hj, rfl, rfl, hb⟩ := hrel
      have HB := hide hb
      clear hb
      by_cases hlt : j < n1
      · obtain ⟨b5, off5, f, A5, c5, hA5, hFr, hfi, hI5, z0, z1, z2⟩ := (HF.out.below (B1.out.trans (HB.out.mono B1.out.size))).at hlt
        subst hA5
        obtain ⟨m5, hm5⟩ : ∃ z, z = f.ls.length := ⟨_, rfl⟩
        rw [← hm5] at z2
        have hjs : (j : Int) < (n1 : Int) := by omega
        have hj64 : IntKind.i64.wrap (j : Int) = (j : Int) := by rw [IntKind.wrap_i64]; omega
        clear hFr hfi hI5 hm5
        go_wp2_with fail
        go_roundw
        case rel => exact ⟨j + 1, by omega, by go_num, rfl, HB.out.alloc HB.out.size _⟩
        case measure => simp [intOf]; omega
      · obtain ⟨x0, x1, x2, x3, x4, x5, x6⟩ := CC.out wr HB.out
        go_wp2_with fail
        clear x0 x1 x2 x3 x4 x5 x6
        go_loopw [3, 50] (fun v y wr => ∃ j : Nat, j ≤ n2 ∧ y = .int .i64 (j : Int) ∧ v = .bool false ∧ Below w1.heap.size w1 wr) (fun _ y _ => n2 - (intOf y).toNat)
        case atStart => exact ⟨0, Nat.zero_le _, rfl, rfl, HB.out⟩
        case round =>
          obtain ⟨k, hk, rfl, rfl, hb⟩ := hrel
          have HB2 := hide hb
          clear hb
          by_cases hlt2 : k < n2
          · obtain ⟨b6, off6, hA6, -, hc6⟩ := RwAt.at (RwAt.below HI.out (B1.out.trans (HB2.out.mono B1.out.size))) (by omega) (by decide)
            have z6 := hc6 k (.int .i64 (is[k]'(by rw [HL2.out]; exact hlt2))) (by rw [intC, List.getElem?_map, List.getElem?_eq_getElem (by rw [HL2.out]; exact hlt2)]; rfl)
            subst hA6
            have hks : (k : Int) < (n2 : Int) := by omega
            have hk64 : IntKind.i64.wrap (k : Int) = (k : Int) := by rw [IntKind.wrap_i64]; omega
            clear hc6
            go_wp2_with fail
            go_roundw
            case rel => exact ⟨k + 1, by omega, by go_num, rfl, HB2.out⟩
            case measure => simp [intOf]; omega
          · go_wp2_with fail
            go_ret
            exact ⟨by rw [hr.out]; rfl, B1.out.trans (HB2.out.mono B1.out.size)⟩
  refine (within_yes h1 w2).mono ?_
  rintro r w3 ⟨rfl, hb⟩
  have C2 := hide (C1.out.trans (hb.mono C1.out.size))
  clear hb x0 x1 x2 x3 x4 x5 x6
  have H1 := hide h1
  clear h1
  obtain ⟨x0, x1, x2, x3, x4, x5, x6⟩ := CC.out w3 C2.out
  go_wp2_with fail
  by_cases h2 : 1 ≤ p ∧ p ≤ 64
  rotate_left
  · refine (within_no h2 w3).mono ?_
    rintro r wk ⟨rfl, hb⟩
    have CK := hide (C2.out.trans (hb.mono C2.out.size))
    clear hb x0 x1 x2 x3 x4 x5 x6
    have HK := hide h2
    clear h2
    have hr := hide (HB22.out (fun h => HK.out (h.1.2.2.1)))
    obtain ⟨x0, x1, x2, x3, x4, x5, x6⟩ := CC.out wk CK.out
    go_wp2_with fail
    clear x0 x1 x2 x3 x4 x5 x6
    go_loopw [3, 37] (fun v y wr => ∃ j : Nat, j ≤ n1 ∧ y = .int .i64 (j : Int) ∧ v = .bool false ∧ Below w1.heap.size w1 wr) (fun _ y _ => n1 - (intOf y).toNat)
    case atStart => exact ⟨0, Nat.zero_le _, rfl, rfl, CK.out⟩
    case round =>
      obtain ⟨j, hj, rfl, rfl, hb⟩ := hrel
      have HB := hide hb
      clear hb
      by_cases hlt : j < n1
      · obtain ⟨b5, off5, f, A5, c5, hA5, hFr, hfi, hI5, z0, z1, z2⟩ := (HF.out.below (B1.out.trans (HB.out.mono B1.out.size))).at hlt
        subst hA5
        obtain ⟨m5, hm5⟩ : ∃ z, z = f.ls.length := ⟨_, rfl⟩
        rw [← hm5] at z2
        have hjs : (j : Int) < (n1 : Int) := by omega
        have hj64 : IntKind.i64.wrap (j : Int) = (j : Int) := by rw [IntKind.wrap_i64]; omega
        clear hFr hfi hI5 hm5
        go_wp2_with fail
        go_roundw
        case rel => exact ⟨j + 1, by omega, by go_num, rfl, HB.out.alloc HB.out.size _⟩
        case measure => simp [intOf]; omega
      · obtain ⟨x0, x1, x2, x3, x4, x5, x6⟩ := CC.out wr HB.out
        go_wp2_with fail
        clear x0 x1 x2 x3 x4 x5 x6
        go_loopw [3, 50] (fun v y wr => ∃ j : Nat, j ≤ n2 ∧ y = .int .i64 (j : Int) ∧ v = .bool false ∧ Below w1.heap.size w1 wr) (fun _ y _ => n2 - (intOf y).toNat)
        case atStart => exact ⟨0, Nat.zero_le _, rfl, rfl, HB.out⟩
        case round =>
          obtain ⟨k, hk, rfl, rfl, hb⟩ := hrel
          have HB2 := hide hb
          clear hb
          by_cases hlt2 : k < n2
          · obtain ⟨b6, off6, hA6, -, hc6⟩ := RwAt.at (RwAt.below HI.out (B1.out.trans (HB2.out.mono B1.out.size))) (by omega) (by decide)
            have z6 := hc6 k (.int .i64 (is[k]'(by rw [HL2.out]; exact hlt2))) (by rw [intC, List.getElem?_map, List.getElem?_eq_getElem (by rw [HL2.out]; exact hlt2)]; rfl)
            subst hA6
            have hks : (k : Int) < (n2 : Int) := by omega
            have hk64 : IntKind.i64.wrap (k : Int) = (k : Int) := by rw [IntKind.wrap_i64]; omega
            clear hc6
            go_wp2_with fail
            go_roundw
            case rel => exact ⟨k + 1, by omega, by go_num, rfl, HB2.out⟩
            case measure => simp [intOf]; omega
          · go_wp2_with fail
            go_ret
            exact ⟨by rw [hr.out]; rfl, B1.out.trans (HB2.out.mono B1.out.size)⟩
  refine (within_yes h2 w3).mono ?_
  rintro r w4 ⟨rfl, hb⟩
  have C3 := hide (C2.out.trans (hb.mono C2.out.size))
  clear hb x0 x1 x2 x3 x4 x5 x6
  have H2 := hide h2
  clear h2
  obtain ⟨x0, x1, x2, x3, x4, x5, x6⟩ := CC.out w4 C3.out
  have hp1 : wrap64 (p - 1) = p - 1 := IntWalk.wrap64_in _ (by have := H2.out; omega)
  have hp2 : IntKind.i64.wrap (p - 1) = p - 1 := IntWalk.i64_in _ (by have := H2.out; omega)
  go_wp2_with fail
  try simp only [hp1, hp2]
  clear hp1 hp2
  by_cases h3 : 0 ≤ i ∧ i ≤ p - 1
  rotate_left
  · refine (within_no h3 w4).mono ?_
    rintro r wk ⟨rfl, hb⟩
    have CK := hide (C3.out.trans (hb.mono C3.out.size))
    clear hb x0 x1 x2 x3 x4 x5 x6
    have HK := hide h3
    clear h3
    have hr := hide (HB22.out (fun h => HK.out (h.1.2.2.2.1)))
    obtain ⟨x0, x1, x2, x3, x4, x5, x6⟩ := CC.out wk CK.out
    go_wp2_with fail
    clear x0 x1 x2 x3 x4 x5 x6
    go_loopw [3, 37] (fun v y wr => ∃ j : Nat, j ≤ n1 ∧ y = .int .i64 (j : Int) ∧ v = .bool false ∧ Below w1.heap.size w1 wr) (fun _ y _ => n1 - (intOf y).toNat)
    case atStart => exact ⟨0, Nat.zero_le _, rfl, rfl, CK.out⟩
    case round =>
      obtain ⟨j, hj, rfl, rfl, hb⟩ := hrel
      have HB := hide hb
      clear hb
      by_cases hlt : j < n1
      · obtain ⟨b5, off5, f, A5, c5, hA5, hFr, hfi, hI5, z0, z1, z2⟩ := (HF.out.below (B1.out.trans (HB.out.mono B1.out.size))).at hlt
        subst hA5
        obtain ⟨m5, hm5⟩ : ∃ z, z = f.ls.length := ⟨_, rfl⟩
        rw [← hm5] at z2
        have hjs : (j : Int) < (n1 : Int) := by omega
        have hj64 : IntKind.i64.wrap (j : Int) = (j : Int) := by rw [IntKind.wrap_i64]; omega
        clear hFr hfi hI5 hm5
        go_wp2_with fail
        go_roundw
        case rel => exact ⟨j + 1, by omega, by go_num, rfl, HB.out.alloc HB.out.size _⟩
        case measure => simp [intOf]; omega
      · obtain ⟨x0, x1, x2, x3, x4, x5, x6⟩ := CC.out wr HB.out
        go_wp2_with fail
        clear x0 x1 x2 x3 x4 x5 x6
        go_loopw [3, 50] (fun v y wr => ∃ j : Nat, j ≤ n2 ∧ y = .int .i64 (j : Int) ∧ v = .bool false ∧ Below w1.heap.size w1 wr) (fun _ y _ => n2 - (intOf y).toNat)
        case atStart => exact ⟨0, Nat.zero_le _, rfl, rfl, HB.out⟩
        case round =>
          obtain ⟨k, hk, rfl, rfl, hb⟩ := hrel
          have HB2 := hide hb
          clear hb
          by_cases hlt2 : k < n2
          · obtain ⟨b6, off6, hA6, -, hc6⟩ := RwAt.at (RwAt.below HI.out (B1.out.trans (HB2.out.mono B1.out.size))) (by omega) (by decide)
            have z6 := hc6 k (.int .i64 (is[k]'(by rw [HL2.out]; exact hlt2))) (by rw [intC, List.getElem?_map, List.getElem?_eq_getElem (by rw [HL2.out]; exact hlt2)]; rfl)
            subst hA6
            have hks : (k : Int) < (n2 : Int) := by omega
            have hk64 : IntKind.i64.wrap (k : Int) = (k : Int) := by rw [IntKind.wrap_i64]; omega
            clear hc6
            go_wp2_with fail
            go_roundw
            case rel => exact ⟨k + 1, by omega, by go_num, rfl, HB2.out⟩
            case measure => simp [intOf]; omega
          · go_wp2_with fail
            go_ret
            exact ⟨by rw [hr.out]; rfl, B1.out.trans (HB2.out.mono B1.out.size)⟩
  refine (within_yes h3 w4).mono ?_
  rintro r w5 ⟨rfl, hb⟩
  have C4 := hide (C3.out.trans (hb.mono C3.out.size))
  clear hb x0 x1 x2 x3 x4 x5 x6
  have H3 := hide h3
  clear h3
  obtain ⟨x0, x1, x2, x3, x4, x5, x6⟩ := CC.out w5 C4.out
  go_wp2_with fail
  by_cases h4 : 0 ≤ x ∧ x ≤ 4095
  rotate_left
  · refine (within_no h4 w5).mono ?_
    rintro r wk ⟨rfl, hb⟩
    have CK := hide (C4.out.trans (hb.mono C4.out.size))
    clear hb x0 x1 x2 x3 x4 x5 x6
    have HK := hide h4
    clear h4
    have hr := hide (HB22.out (fun h => HK.out (h.1.2.2.2.2)))
    obtain ⟨x0, x1, x2, x3, x4, x5, x6⟩ := CC.out wk CK.out
    go_wp2_with fail
    clear x0 x1 x2 x3 x4 x5 x6
    go_loopw [3, 37] (fun v y wr => ∃ j : Nat, j ≤ n1 ∧ y = .int .i64 (j : Int) ∧ v = .bool false ∧ Below w1.heap.size w1 wr) (fun _ y _ => n1 - (intOf y).toNat)
    case atStart => exact ⟨0, Nat.zero_le _, rfl, rfl, CK.out⟩
    case round =>
      obtain ⟨j, hj, rfl, rfl, hb⟩ := hrel
      have HB := hide hb
      clear hb
      by_cases hlt : j < n1
      · obtain ⟨b5, off5, f, A5, c5, hA5, hFr, hfi, hI5, z0, z1, z2⟩ := (HF.out.below (B1.out.trans (HB.out.mono B1.out.size))).at hlt
        subst hA5
        obtain ⟨m5, hm5⟩ : ∃ z, z = f.ls.length := ⟨_, rfl⟩
        rw [← hm5] at z2
        have hjs : (j : Int) < (n1 : Int) := by omega
        have hj64 : IntKind.i64.wrap (j : Int) = (j : Int) := by rw [IntKind.wrap_i64]; omega
        clear hFr hfi hI5 hm5
        go_wp2_with fail
        go_roundw
        case rel => exact ⟨j + 1, by omega, by go_num, rfl, HB.out.alloc HB.out.size _⟩
        case measure => simp [intOf]; omega
      · obtain ⟨x0, x1, x2, x3, x4, x5, x6⟩ := CC.out wr HB.out
        go_wp2_with fail
        clear x0 x1 x2 x3 x4 x5 x6
        go_loopw [3, 50] (fun v y wr => ∃ j : Nat, j ≤ n2 ∧ y = .int .i64 (j : Int) ∧ v = .bool false ∧ Below w1.heap.size w1 wr) (fun _ y _ => n2 - (intOf y).toNat)
        case atStart => exact ⟨0, Nat.zero_le _, rfl, rfl, HB.out⟩
        case round =>
          obtain ⟨k, hk, rfl, rfl, hb⟩ := hrel
          have HB2 := hide hb
          clear hb
          by_cases hlt2 : k < n2
          · obtain ⟨b6, off6, hA6, -, hc6⟩ := RwAt.at (RwAt.below HI.out (B1.out.trans (HB2.out.mono B1.out.size))) (by omega) (by decide)
            have z6 := hc6 k (.int .i64 (is[k]'(by rw [HL2.out]; exact hlt2))) (by rw [intC, List.getElem?_map, List.getElem?_eq_getElem (by rw [HL2.out]; exact hlt2)]; rfl)
            subst hA6
            have hks : (k : Int) < (n2 : Int) := by omega
            have hk64 : IntKind.i64.wrap (k : Int) = (k : Int) := by rw [IntKind.wrap_i64]; omega
            clear hc6
            go_wp2_with fail
            go_roundw
            case rel => exact ⟨k + 1, by omega, by go_num, rfl, HB2.out⟩
            case measure => simp [intOf]; omega
          · go_wp2_with fail
            go_ret
            exact ⟨by rw [hr.out]; rfl, B1.out.trans (HB2.out.mono B1.out.size)⟩
  refine (within_yes h4 w5).mono ?_
  rintro r w6 ⟨rfl, hb⟩
  have C5 := hide (C4.out.trans (hb.mono C4.out.size))
  clear hb x0 x1 x2 x3 x4 x5 x6
  have H4 := hide h4
  clear h4
  have HH := hide (show gdH e c i p x from ⟨H0.out, H1.out, H2.out, H3.out, H4.out⟩)
  obtain ⟨x0, x1, x2, x3, x4, x5, x6⟩ := CC.out w6 C5.out
  go_wp2_with fail
  clear x0 x1 x2 x3 x4 x5 x6
  go_loopw [3, 37] (fun v y wr => ∃ j : Nat, j ≤ n1 ∧ y = .int .i64 (j : Int) ∧ v = .bool ((fs.take j).all okF) ∧ Below w1.heap.size w1 wr) (fun _ y _ => n1 - (intOf y).toNat)
  case atStart => exact ⟨0, Nat.zero_le _, rfl, by simp, C5.out⟩
  case round =>
    obtain ⟨j, hj, rfl, rfl, hb⟩ := hrel
    have HB := hide hb
    have BB := hide (B1.out.trans (hb.mono B1.out.size))
    clear hb
    by_cases hlt : j < n1
    · obtain ⟨b5, off5, f, A5, c5, hA5, hFr, hfi, hI5, z0, z1, z2⟩ := (HF.out.below BB.out).at hlt
      subst hA5
      have HFI := hide hfi
      have AT := hide (all_takeB (P := okF) hfi)
      have H64F := hide (H64.out f (List.mem_of_getElem? hfi))
      have HLF := hide (show f.ls.length ≤ 1000000 by have := lsN_mem hfi; have := HLS.out; omega)
      have HI5 := hide (RwAt.below hI5 ((Below.refl wr.heap.size wr).alloc (Nat.le_refl _) (.cells #[.int .i64 f.ino, .int .i64 f.ver, .slice A5 f.ls.length c5] 28)))
      have KF := hide (Blk.new wr 28 #[.int .i64 f.ino, .int .i64 f.ver, .slice A5 f.ls.length c5])
      have BA := hide (HB.out.alloc HB.out.size (.cells #[.int .i64 f.ino, .int .i64 f.ver, .slice A5 f.ls.length c5] 28))
      obtain ⟨wb, hwb⟩ : ∃ W, W = wr.alloc (.cells #[.int .i64 f.ino, .int .i64 f.ver, .slice A5 f.ls.length c5] 28) := ⟨_, rfl⟩
      rw [← hwb] at HI5 KF BA
      have hjs : (j : Int) < (n1 : Int) := by omega
      have hj64 : IntKind.i64.wrap (j : Int) = (j : Int) := by rw [IntKind.wrap_i64]; omega
      cases hgb : (fs.take j).all okF with
      | false =>
        have HGB := hide hgb
        clear hgb hFr hfi hI5
        go_wp2_with fail
        rw [← hwb]
        go_roundw
        case rel => exact ⟨j + 1, by omega, by go_num, by rw [AT.out, HGB.out]; rfl, BA.out⟩
        case measure => simp [intOf]; omega
      | true =>
        have HGB := hide hgb
        clear hgb hFr hfi hI5
        go_upto_region 5 with fail
        rw [← hwb]
        have k0 := KF.out.cell 0
        have k1 := KF.out.cell 1
        have k2 := KF.out.cell 2
        simp only [List.getElem?_toArray, List.getElem?_cons_succ, List.getElem?_cons_zero] at k0 k1 k2
        clear hwb z0 z1 z2
        go_wp2_with fail
        refine (file_any f A5 c5 _ _ wb (SP.out.bel (B1.out.trans (BA.out.mono B1.out.size))) HI5.out HLF.out H64F.out).mono ?_
        rintro r w8 ⟨rfl, hb⟩
        have B8 := hide (BA.out.trans (hb.mono BA.out.size))
        clear hb k0 k1 k2
        rw [show decide (gdF f) = okF f from rfl]
        cases hgf : okF f with
        | true =>
          have HGF := hide hgf
          clear hgf
          go_wp2_with fail
          go_roundw
          case rel => exact ⟨j + 1, by omega, by go_num, by rw [AT.out, HGB.out, HGF.out]; rfl, B8.out⟩
          case measure => simp [intOf]; omega
        | false =>
          have HGF := hide hgf
          clear hgf
          go_wp2_with fail
          go_roundw
          case rel => exact ⟨j + 1, by omega, by go_num, by rw [AT.out, HGB.out, HGF.out]; rfl, B8.out⟩
          case measure => simp [intOf]; omega
    · have hjn : j = n1 := by omega
      have hfull : fs.take j = fs := by rw [hjn, ← HL1.out, List.take_length]
      rw [hfull]
      clear hjn hfull
      obtain ⟨x0, x1, x2, x3, x4, x5, x6⟩ := CC.out wr HB.out
      go_wp2_with fail
      clear x0 x1 x2 x3 x4 x5 x6
      go_loopw [3, 50] (fun v y wr => ∃ k : Nat, k ≤ n2 ∧ y = .int .i64 (k : Int) ∧ v = .bool (fs.all okF && (is.take k).all okN) ∧ Below w1.heap.size w1 wr) (fun _ y _ => n2 - (intOf y).toNat)
      case atStart => exact ⟨0, Nat.zero_le _, rfl, by simp, HB.out⟩
      case round =>
        obtain ⟨k, hk, rfl, rfl, hb⟩ := hrel
        have HB2 := hide hb
        have BB2 := hide (B1.out.trans (hb.mono B1.out.size))
        clear hb
        by_cases hlt2 : k < n2
        · obtain ⟨zn, hzn⟩ : ∃ z, is[k]? = some z := ⟨_, List.getElem?_eq_getElem (by rw [HL2.out]; exact hlt2)⟩
          obtain ⟨b6, off6, hA6, -, hc6⟩ := RwAt.at (RwAt.below HI.out BB2.out) (by omega) (by decide)
          have z6 := hc6 k (.int .i64 zn) (by rw [intC, List.getElem?_map, hzn]; rfl)
          have AT := hide (all_takeB (P := okN) hzn)
          subst hA6
          have hks : (k : Int) < (n2 : Int) := by omega
          have hk64 : IntKind.i64.wrap (k : Int) = (k : Int) := by rw [IntKind.wrap_i64]; omega
          clear hc6 hzn
          cases hgb : (fs.all okF && (is.take k).all okN) with
          | false =>
            have HGB := hide hgb
            clear hgb
            go_wp2_with fail
            go_roundw
            case rel => exact ⟨k + 1, by omega, by go_num, by rw [AT.out, ← Bool.and_assoc, HGB.out]; rfl, HB2.out⟩
            case measure => simp [intOf]; omega
          | true =>
            have HGB := hide hgb
            clear hgb
            go_wp2_with fail
            refine (within_any zn 1 200 wr).mono ?_
            rintro r w8 ⟨rfl, hb⟩
            have B8 := hide (HB2.out.trans (hb.mono HB2.out.size))
            clear hb z6
            rw [show decide (1 ≤ zn ∧ zn ≤ 200) = okN zn from rfl]
            cases hgf : okN zn with
            | true =>
              have HGF := hide hgf
              clear hgf
              go_wp2_with fail
              go_roundw
              case rel => exact ⟨k + 1, by omega, by go_num, by rw [AT.out, ← Bool.and_assoc, HGB.out, HGF.out]; rfl, B8.out⟩
              case measure => simp [intOf]; omega
            | false =>
              have HGF := hide hgf
              clear hgf
              go_wp2_with fail
              go_roundw
              case rel => exact ⟨k + 1, by omega, by go_num, by rw [AT.out, ← Bool.and_assoc, HGB.out, HGF.out]; rfl, B8.out⟩
              case measure => simp [intOf]; omega
        · have hkn : k = n2 := by omega
          have hfull : is.take k = is := by rw [hkn, ← HL2.out, List.take_length]
          rw [hfull]
          clear hkn hfull
          cases hgb : (fs.all okF && is.all okN) with
          | false =>
            have hr := hide (HB22.out (fun h => by rw [(okP_iff fs is).2 h.2] at hgb; cases hgb))
            clear hgb
            go_wp2_with fail
            go_ret
            exact ⟨by rw [hr.out]; rfl, BB2.out⟩
          | true =>
            have hgd : gdP e c i p x fs is := ⟨HH.out, (okP_iff fs is).1 hgb⟩
            have HCK := hide (show checkP e c i p x fs is = if 88 < szN fs is then 27 else 0 by unfold checkP; rw [if_pos hgd])
            clear hgb hgd
            obtain ⟨x0, x1, x2, x3, x4, x5, x6⟩ := CC.out wr HB2.out
            go_wp2_with fail
            have CS := hide (size_any e c i p x A1 A2 n1 c1 n2 c2 _ _ fs wr (HF.out.below BB2.out) (by omega) (by omega) HLS.out)
            have HSZ := hide (show 10 + n2 + (4 * n1 + 2 * lsN fs) = szN fs is by unfold szN; rw [HL1.out, HL2.out])
            unfold partC at CS
            clear x0 x1 x2 x3 x4 x5 x6
            refine CS.out.mono ?_
            rintro r w8 ⟨rfl, hb⟩
            rw [HSZ.out]
            have B8 := hide (BB2.out.trans (hb.mono BB2.out.size))
            clear hb CS
            by_cases h88 : 88 < szN fs is
            · have HV := hide (HCK.out.trans (if_pos h88))
              have h88' : (88 : Int) < ((szN fs is : Nat) : Int) := by omega
              go_wp2_with fail
              go_ret
              exact ⟨by rw [HV.out]; rfl, B8.out⟩
            · have HV := hide (HCK.out.trans (if_neg h88))
              have h88' : ¬ (88 : Int) < ((szN fs is : Nat) : Int) := by omega
              go_wp2_with fail
              go_ret
              exact ⟨by rw [HV.out]; rfl, B8.out⟩
end Go.Proofs.YtopjkpopdffkeaaDoor
