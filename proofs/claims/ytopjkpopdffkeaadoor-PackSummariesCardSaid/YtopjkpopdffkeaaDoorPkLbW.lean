/- The walk over lbn; what item asks of it and of Plan's closure. -/
import Derived.Test.YtopjkpopdffkeaaDoorPkItmW
set_option linter.unusedVariables false
set_option linter.unusedSimpArgs false
namespace Go.Proofs.YtopjkpopdffkeaaDoor
open Go.RowKit
attribute [local go_sem ↓] Go.wp_at_zero Go.wp_at_succ

set_option maxRecDepth 100000 in
theorem lbn_any (k : Nat) (i n : Int) (f : FI) (X : Option Addr) (m cm : Nat) (w : World) :
    Calls Tryd.prog 14 #[.pointer (some ⟨k, 0, none⟩), .int .i64 i, .agg #[.int .i64 f.ino, .int .i64 f.ver, .slice X m cm], .int .i64 n] w fun e w' => ∃ b, w.heap.size ≤ b ∧
      e = .returned (.func (.func 22) #[] #[.pointer (some ⟨b, 0, none⟩), .pointer (some ⟨b + 1, 0, none⟩), .pointer (some ⟨b + 2, 0, none⟩), .pointer (some ⟨b + 3, 0, none⟩)]) ∧
      Blk w' b 43 #[.pointer (some ⟨k, 0, none⟩)] ∧ Blk w' (b + 1) 3 #[.int .i64 i] ∧ Blk w' (b + 2) 28 #[.int .i64 f.ino, .int .i64 f.ver, .slice X m cm] ∧ Blk w' (b + 3) 3 #[.int .i64 n] ∧ Below w.heap.size w w' := by
  go_enter Tryd.func14, Tryd.ntmps14
  go_wp2_with fail
  go_ret
  have k1 := ((Blk.new w 43 #[.pointer (some ⟨k, 0, none⟩)]).alloc (.cells #[.int .i64 i] 3)).alloc (.cells #[.int .i64 f.ino, .int .i64 f.ver, .slice X m cm] 28)
  have k2 := (Blk.new (w.alloc (.cells #[.pointer (some ⟨k, 0, none⟩)] 43)) 3 #[.int .i64 i]).alloc (.cells #[.int .i64 f.ino, .int .i64 f.ver, .slice X m cm] 28)
  have k3 := Blk.new ((w.alloc (.cells #[.pointer (some ⟨k, 0, none⟩)] 43)).alloc (.cells #[.int .i64 i] 3)) 28 #[.int .i64 f.ino, .int .i64 f.ver, .slice X m cm]
  have k4 := Blk.new (((w.alloc (.cells #[.pointer (some ⟨k, 0, none⟩)] 43)).alloc (.cells #[.int .i64 i] 3)).alloc (.cells #[.int .i64 f.ino, .int .i64 f.ver, .slice X m cm] 28)) 3 #[.int .i64 n]
  simp only [World.size_alloc] at k2 k3 k4
  exact ⟨w.heap.size, Nat.le_refl _, rfl, k1.alloc _, k2.alloc _, k3.alloc _, k4, ((((Below.refl _ _).alloc (Nat.le_refl _) _).alloc (by simp) _).alloc (by simp; omega) _).alloc (by simp; omega) _⟩
theorem lsN_set {l : List FI} {q : Nat} (h : l.length = q + 1) (x : FI) : lsN (l.set q x) = lsN (l.take q) + x.ls.length := by
  have h1 : (l.set q x)[q]? = some x := by rw [List.getElem?_set_self (by omega)]
  have h2 := lsN_take h1
  rw [List.take_of_length_le (by rw [List.length_set]; omega)] at h2
  rw [h2, List.take_set_of_le (Nat.le_refl _)]
theorem addL_bd (file i : Int) (f : FI) (n : Int) (p : PcP) : (addL file i f n p).1.nw = p.nw ∧ (addL file i f n p).1.is = p.is ∧ (addL file i f n p).1.fs.length ≤ p.fs.length + 1 ∧ lsN (addL file i f n p).1.fs ≤ lsN p.fs + 1 := by
  have hl : (filesL file i f p).length ≤ p.fs.length + 1 ∧ lsN (filesL file i f p) = lsN p.fs := by
    unfold filesL
    split
    · exact ⟨Nat.le_succ _, rfl⟩
    · rw [List.length_append, lsN_app]
      exact ⟨Nat.le_refl _, by simp [lsN, sumN]⟩
  unfold addL
  split
  · exact ⟨rfl, rfl, Nat.le_succ _, Nat.le_succ _⟩
  · refine ⟨rfl, rfl, ?_, ?_⟩
    · show ((filesL file i f p).set _ _).length ≤ _
      rw [List.length_set]
      exact hl.1
    · show lsN ((filesL file i f p).set _ _) ≤ _
      generalize filesL file i f p = l at *
      rcases Nat.eq_zero_or_pos l.length with h0 | h0
      · have := List.eq_nil_of_length_eq_zero h0
        subst this
        simp [lsN, sumN]
      · obtain ⟨q, hq⟩ : ∃ q, l.length = q + 1 := ⟨l.length - 1, by omega⟩
        rw [hq, Nat.add_sub_cancel, lsN_set hq]
        have h3 := lsN_take (lastL_at hq)
        rw [List.take_of_length_le (by omega)] at h3
        show lsN (l.take q) + ((lastL l).ls ++ [n]).length ≤ _
        rw [List.length_append]
        simp
        omega
theorem enters {K : FuncId} {fn : Func} (hf : Tryd.prog.funcs[K]? = some fn) (hn : (fn.name == "runtime.NumGoroutine") = false) (hb : fn.body.isSome = true) : ∀ args w', (callFunc K args).run Tryd.prog w' = .ok (.enter K args) w' := by
  intro args w'
  have hne : fn.name ≠ "runtime.NumGoroutine" := by simpa using hn
  obtain ⟨c, hb⟩ := Option.isSome_iff_exists.1 hb
  simp [callFunc, hf, hne, hb]
/-- lbn's function value adds. -/
theorem lbn_ok {base k b : Nat} {w : World} {i n : Int} {f : FI} {X : Option Addr} {m cm : Nat} (hb : base ≤ b) (k1 : Blk w b 43 #[.pointer (some ⟨k, 0, none⟩)]) (k2 : Blk w (b + 1) 3 #[.int .i64 i]) (k3 : Blk w (b + 2) 28 #[.int .i64 f.ino, .int .i64 f.ver, .slice X m cm]) (k4 : Blk w (b + 3) 3 #[.int .i64 n]) :
    AddOk base k w 22 #[.pointer (some ⟨b, 0, none⟩), .pointer (some ⟨b + 1, 0, none⟩), .pointer (some ⟨b + 2, 0, none⟩), .pointer (some ⟨b + 3, 0, none⟩)] (fun file p => addL file i f n p) (fun file p => file = i → p.fs ≠ []) := by
  refine ⟨enters Tryd.func22 (by kernel_rfl) (by rfl), fun w' file p A1 c1 A2 c2 hK h3 hF hI h4 h5 h6 hne hB => ?_, fun file p h4 h5 h6 => ?_⟩
  · have e1 := (k1.kt hK (by decide)).cell 0
    have e2 := (k2.kt hK (by decide)).cell 0
    have e3 := (k3.kt hK (by decide)).cell 0
    have e4 := (k3.kt hK (by decide)).cell 1
    have e5 := (k4.kt hK (by decide)).cell 0
    refine (lbn1_any base k b (b + 1) (b + 2) (b + 3) file i n f p A1 A2 c1 c2 w' h3 e1 e2 e3 e4 e5 hF (by omega) (by omega) hne hB).mono ?_
    rintro e w'' ⟨A, c, rfl, hF2, hb2⟩
    obtain ⟨g1, g2, -, -⟩ := addL_bd file i f n p
    refine ⟨A, c, A2, c2, by rw [g2], g1, hF2, ?_, hb2⟩
    rw [g2]
    exact RwAt.below hI hb2
  · obtain ⟨-, g2, g3, g4⟩ := addL_bd file i f n p
    exact ⟨by show (addL file i f n p).1.fs.length ≤ _; omega, by show (addL file i f n p).1.is.length ≤ _; rw [g2]; omega, by show lsN (addL file i f n p).1.fs ≤ _; omega⟩
/-- Plan's closure adds. -/
theorem pl1_ok {base k X : Nat} {w : World} {x : Int} (kX : Blk w X 3 #[.int .i64 x]) :
    AddOk base k w 15 #[.pointer (some ⟨X, 0, none⟩)] (fun _ p => ({ p with is := p.is ++ [x] }, true)) (fun _ _ => True) := by
  refine ⟨enters Tryd.func15 (by kernel_rfl) (by rfl), fun w' file p A1 c1 A2 c2 hK h3 hF hI h4 h5 h6 _ hB => ?_, fun file p h4 h5 h6 => ?_⟩
  · refine (pl1_any base X x p A1 A2 c1 c2 w' ((kX.kt hK (by decide)).cell 0) hF hI (by omega) hB).mono ?_
    rintro e w'' ⟨A, c, rfl, hI2, hb2⟩
    exact ⟨A1, c1, A, c, rfl, rfl, hF.below hb2, hI2, hb2⟩
  · exact ⟨by show p.fs.length ≤ _; omega, by show (p.is ++ [x]).length ≤ _; rw [List.length_append]; simp; omega, by show lsN p.fs ≤ _; omega⟩
end Go.Proofs.YtopjkpopdffkeaaDoor
