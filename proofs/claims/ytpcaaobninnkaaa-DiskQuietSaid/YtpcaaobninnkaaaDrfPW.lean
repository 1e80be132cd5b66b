/- The walk over the reference's Put. -/
import Derived.Test.YtpcaaobninnkaaaDrfAp
namespace Go.Proofs.Ytpcaaobninnkaaa
open Go.RowKit

theorem two_boxes {w w1 : World} {t : TypeId} {xs ys : Array Value} (h : Below ((w.alloc (.cells xs t)).alloc (.cells ys t)).heap.size ((w.alloc (.cells xs t)).alloc (.cells ys t)) w1) :
    Blk w1 w.heap.size t xs ∧ Blk w1 (w.heap.size + 1) t ys ∧ Below w.heap.size w w1 ∧ w.heap.size + 2 ≤ w1.heap.size := by
  have h2 : Blk ((w.alloc (.cells xs t)).alloc (.cells ys t)) (w.heap.size + 1) t ys := by
    have := Blk.new (w.alloc (.cells xs t)) t ys
    rwa [World.size_alloc] at this
  refine ⟨((Blk.new w t xs).alloc _).below h, h2.below h, (((Below.refl w.heap.size w).alloc (Nat.le_refl _) _).alloc (by simp) _).trans (h.mono (by simp; omega)), ?_⟩
  have := h.size
  simpa using this
theorem blk4 {w : World} {g : Nat} {t : TypeId} {x0 x1 x2 x3 : Value} (h : Blk w g t #[x0, x1, x2, x3]) :
    w.cell? ⟨g, 0, none⟩ = some x0 ∧ w.cell? ⟨g, 1, none⟩ = some x1 ∧ w.cell? ⟨g, 2, none⟩ = some x2 ∧ w.cell? ⟨g, 3, none⟩ = some x3 ∧
    w.frozen? ⟨g, 0, none⟩ = false ∧ w.frozen? ⟨g, 1, none⟩ = false ∧ w.frozen? ⟨g, 2, none⟩ = false ∧ w.frozen? ⟨g, 3, none⟩ = false :=
  ⟨h.cell 0, h.cell 1, h.cell 2, h.cell 3, h.frozen 0, h.frozen 1, h.frozen 2, h.frozen 3⟩
theorem set4 {w : World} {g : Nat} {t : TypeId} {x0 x1 x2 x3 : Value} (h : Blk w g t #[x0, x1, x2, x3]) (y0 y1 y2 y3 : Value) :
    Blk ((((w.setCell ⟨g, 0, none⟩ y0).setCell ⟨g, 1, none⟩ y1).setCell ⟨g, 2, none⟩ y2).setCell ⟨g, 3, none⟩ y3) g t #[y0, y1, y2, y3] := (((h.set 0 y0).set 1 y1).set 2 y2).set 3 y3
theorem far4 {w : World} {g g' : Nat} {t : TypeId} {cs : Array Value} (h : Blk w g t cs) (hn : g ≠ g') (y0 y1 y2 y3 : Value) :
    Blk ((((w.setCell ⟨g', 0, none⟩ y0).setCell ⟨g', 1, none⟩ y1).setCell ⟨g', 2, none⟩ y2).setCell ⟨g', 3, none⟩ y3) g t cs :=
  (((h.far (p := ⟨g', 0, none⟩) hn y0).far (p := ⟨g', 1, none⟩) hn y1).far (p := ⟨g', 2, none⟩) hn y2).far (p := ⟨g', 3, none⟩) hn y3
theorem bel4 {w0 w : World} {B g' : Nat} (h : Below B w0 w) (hn : B ≤ g') (y0 y1 y2 y3 : Value) :
    Below B w0 ((((w.setCell ⟨g', 0, none⟩ y0).setCell ⟨g', 1, none⟩ y1).setCell ⟨g', 2, none⟩ y2).setCell ⟨g', 3, none⟩ y3) :=
  (((h.setCell (p := ⟨g', 0, none⟩) hn y0).setCell (p := ⟨g', 1, none⟩) hn y1).setCell (p := ⟨g', 2, none⟩) hn y2).setCell (p := ⟨g', 3, none⟩) hn y3
theorem rput_no (As : Option Addr) (cs : Nat) (Aq : Option Addr) (cq : Nat) (D : Dsk) (i : Int) (b : List UInt8) (w : World) (hi : ¬ (0 ≤ i ∧ i < D.sure.length) ∨ b.length ≠ 64) (hb : b.length ≤ 9223372036854775807) (hn : D.sure.length ≤ 4096) :
    Calls Try.prog 26 #[.agg (refV As cs Aq cq D), .int .i64 i, .string (txt b)] w fun e w' => e = .returned (.tuple #[.agg (refV As cs Aq cq D), .int .i64 22]) ∧ Below w.heap.size w w' := by
  have hsz : (txt b).size = b.length := by simp [txt, ByteArray.size]
  unfold refV
  by_cases h1 : i < 0
  · clear hi
    go_enter Try.func26, Try.ntmps26
    go_wp2_with fail
    exact bodyPost_ret (v := .tuple #[.agg _, _]) (by simp [results, Try.results26, go_sem]) rfl ⟨rfl, ((Below.refl _ _).alloc (Nat.le_refl _) _).alloc (by simp) _⟩
  · by_cases h2 : (D.sure.length : Int) ≤ i
    · clear hi
      go_enter Try.func26, Try.ntmps26
      go_wp2_with fail
      exact bodyPost_ret (v := .tuple #[.agg _, _]) (by simp [results, Try.results26, go_sem]) rfl ⟨rfl, ((Below.refl _ _).alloc (Nat.le_refl _) _).alloc (by simp) _⟩
    · have h3 : ¬ (b.length : Int) = 64 := by omega
      clear hi
      go_enter Try.func26, Try.ntmps26
      go_wp2_with fail
      exact bodyPost_ret (v := .tuple #[.agg _, _]) (by simp [results, Try.results26, go_sem]) rfl ⟨rfl, ((Below.refl _ _).alloc (Nat.le_refl _) _).alloc (by simp) _⟩
theorem rput_dead (As : Option Addr) (cs : Nat) (Aq : Option Addr) (cq : Nat) (D : Dsk) (i : Nat) (b : List UInt8) (w : World) (hi : i < D.sure.length) (hb : b.length = 64) (hl : D.left = 0) (hn : D.sure.length ≤ 4096) :
    Calls Try.prog 26 #[.agg (refV As cs Aq cq D), .int .i64 (i : Int), .string (txt b)] w fun e w' => e = .returned (.tuple #[.agg (refV As cs Aq cq D), .int .i64 102]) ∧ Below w.heap.size w w' := by
  have hsz : (txt b).size = 64 := by simp [txt, ByteArray.size, hb]
  have C := hide (fun w => rstep_dead As cs Aq cq D w hl)
  unfold refV at C ⊢
  clear hl
  go_enter Try.func26, Try.ntmps26
  go_wp2_with fail
  refine (C.out _).mono ?_
  rintro e w1 ⟨rfl, hb1⟩
  obtain ⟨K1, K2, hb, hs⟩ := two_boxes hb1
  obtain ⟨c0, c1, c2, c3, f0, f1, f2, f3⟩ := blk4 K1
  obtain ⟨d0, d1, d2, d3, e0, e1, e2, e3⟩ := blk4 K2
  have Hb := hide hb
  clear hb1 hb hs K1 K2
  go_wp2_with fail
  exact bodyPost_ret (v := .tuple #[.agg _, _]) (by simp [results, Try.results26, go_sem, d0, d1, d2, d3]) rfl ⟨rfl, bel4 (bel4 Hb.out (Nat.le_refl _) _ _ _ _) (Nat.le_succ _) _ _ _ _⟩

theorem Dsk.Ok.wrote {D : Dsk} (h : D.Ok) (hs : D.steps < 1000000) (hq : D.queue.length < 1000000) {i : Nat} {b : List UInt8} (hi : i < D.sure.length) (hb : b.length = 64) : (D.wrote i b).Ok :=
  { h.stepped hs with q := (fun x hx => by
      rcases List.mem_append.1 hx with hx | hx
      · exact h.q x hx
      · rw [List.mem_singleton] at hx
        subst hx
        exact ⟨hb, hi⟩), qn := (by show (D.queue ++ [(i, b)]).length ≤ 1000000; simp; omega) }
set_option maxHeartbeats 1000000 in
theorem rput_ok (base : Nat) (As : Option Addr) (cs : Nat) (Aq : Option Addr) (cq : Nat) (D : Dsk) (i : Nat) (b : List UInt8) (w : World) (h : RefM w base As cs Aq cq D) (hbs : base ≤ w.heap.size) (hi : i < D.sure.length) (hb : b.length = 64) (hl : D.left ≠ 0) (hs : D.steps < 1000000) (hq : D.queue.length < 1000000) :
    Calls Try.prog 26 #[.agg (refV As cs Aq cq D), .int .i64 (i : Int), .string (txt b)] w fun e w' => ∃ A' c', e = .returned (.tuple #[.agg (refV As cs A' c' (D.wrote i b)), .int .i64 0]) ∧ RefM w' base As cs A' c' (D.wrote i b) ∧ Below w.heap.size w w' ∧ (∀ g, (Value.slice A' 0 0).ownBlock = some g → w.heap.size ≤ g) := by
  have hsz : (txt b).size = 64 := by simp [txt, ByteArray.size, hb]
  have hok := h.ok.wrote hs hq hi hb
  have C := hide (fun w => rstep_ok As cs Aq cq D w hl h.ok hs)
  have hn := h.ok.n
  have H := hide h
  unfold refV at C ⊢
  have hs1 : D.stepped.sure.length = D.sure.length := rfl
  have hs2 : D.stepped.queue.length = D.queue.length := rfl
  rw [hs1, hs2] at C
  generalize hst : (D.stepped.steps : Int) = st at *
  generalize hlf : D.stepped.left = lf at *
  replace hst := hide hst
  replace hlf := hide hlf
  replace hok := hide hok
  clear hl h hs1 hs2
  go_enter Try.func26, Try.ntmps26
  go_wp2_with fail
  refine (C.out _).mono ?_
  rintro e w1 ⟨rfl, hb1⟩
  obtain ⟨K1, K2, hb, hs⟩ := two_boxes hb1
  have HK1 := hide K1
  have HK2 := hide K2
  obtain ⟨c0, c1, c2, c3, f0, f1, f2, f3⟩ := blk4 K1
  have Hb := hide hb
  clear hb1 hb hs K1 K2 C
  go_upto_region 6 with fail
  have J1 := hide (set4 HK1.out (.slice As D.sure.length cs) (.slice Aq D.queue.length cq) (.int .i64 st) (.int .i64 lf))
  have J2 := hide (far4 HK2.out (Nat.succ_ne_self _) (.slice As D.sure.length cs) (.slice Aq D.queue.length cq) (.int .i64 st) (.int .i64 lf))
  have Hb2 := hide (bel4 Hb.out (Nat.le_refl _) (.slice As D.sure.length cs) (.slice Aq D.queue.length cq) (.int .i64 st) (.int .i64 lf))
  clear c0 c1 c2 c3 f0 f1 f2 f3 HK1 HK2 Hb
  generalize (((w1.setCell ⟨w.heap.size, 0, none⟩ (.slice As D.sure.length cs)).setCell ⟨w.heap.size, 1, none⟩ (.slice Aq D.queue.length cq)).setCell ⟨w.heap.size, 2, none⟩ (.int .i64 st)).setCell ⟨w.heap.size, 3, none⟩ (.int .i64 lf) = w2 at *
  have c1 : (w2.alloc (.cells #[] 76)).cell? ⟨w.heap.size, 1, none⟩ = some (.slice Aq D.queue.length cq) := (J1.out.alloc _).cell 1
  have hs2 : Hid (w.heap.size + 2 ≤ w2.heap.size) := hide (by have := J2.out.lt; omega)
  go_wp2_with (
    at_builtin
    obtain ⟨ie, hie, z1, z2, z3⟩ := wr_info
    refine wpList_appk _ rfl (.tmp 32) (.tmp 34) _ rfl Try.underlying49 hie z1 z2 z3 rfl (by decide) (by decide) w.heap.size (.slice (some ⟨w2.heap.size, 0, none⟩) 0 0) 0 [] rfl (own_made Hb2.out.size) base Aq D.queue.length cq (wsC D.queue) rfl
      (own_kp (H.out.below Hb2.out).q (Kp.of_below (gs := []) ((Below.refl _ _).alloc (Nat.le_refl _) _)) (by simp)) (wsC_one _) (by omega) (Nat.le_trans Hb2.out.size (by simp)) ?_
    intro A3 c3 w3 hown3 hg3 hat3
    simp only [Nat.zero_add, List.nil_append] at hown3 hat3
    have L1 := hide (blk_grown (J1.out.alloc (.cells #[] 76)) hg3 (by simp [Value.ownBlock]; have := J1.out.lt; omega))
    have L2 := hide (blk_grown (J2.out.alloc (.cells #[] 76)) hg3 (by simp [Value.ownBlock]; have := J2.out.lt; omega))
    have Lb := hide (bel_grow (Hb2.out.alloc Hb2.out.size (.cells #[] 76)) hg3 (fun k hk => by simp only [Value.ownBlock, Option.some.injEq] at hk; have := hs2.out; omega) (Nat.le_trans Hb2.out.size (by simp)))
    have Ho := hide hown3
    have Ha := hide (show ∀ g, (Value.slice A3 D.queue.length c3).ownBlock = some g → w.heap.size + 2 ≤ g ∧ g < w3.heap.size from fun g hg => ⟨by
      have := hs2.out
      rcases hat3 with h | h
      · rw [hg] at h; simp [Value.ownBlock] at h; omega
      · rw [hg] at h; simp at h; omega, (hown3.lt g hg).2⟩)
    have hs3 : w.heap.size ≤ w3.heap.size := Lb.out.size
    clear hown3 hg3 hat3
    go_wp2_with (
      at_builtin
      refine wpList_append_lies _ rfl (.tmp 35) (.tmp 39) _ rfl w.heap.size 76 ie _ 2 24 Try.underlying49 hie z1 z2 z3 rfl (by decide) (.slice A3 D.queue.length c3) D.queue.length (wsC D.queue) rfl (own_kp Ho.out (Kp.of_below (gs := []) ((Below.refl _ _).alloc (Nat.le_refl _) _)) (by simp)) ⟨w3.heap.size, 0, none⟩ 1 1 [.int .i64 (i : Int), .string (txt b)] rfl
        rfl (World.news_of_block (heap_alloc_new w3 (.cells #[.int .i64 (i : Int), .string (txt b)] 76))) (by intro u hu; simp at hu; rcases hu with rfl | rfl <;> rfl) (by decide) (by simp only [maxLen]; omega) (by omega) (Nat.le_trans hs3 (by simp)) _ rfl ?_
      intro g4 c4 w4 hown4 hg4 hat4 hlt4
      have M1 := hide (blk_grown (L1.out.alloc (.cells #[.int .i64 (i : Int), .string (txt b)] 76)) hg4 (fun e => by have := (Ha.out _ e.symm).1; omega))
      have M2 := hide (blk_grown (L2.out.alloc (.cells #[.int .i64 (i : Int), .string (txt b)] 76)) hg4 (fun e => by have := (Ha.out _ e.symm).1; omega))
      have Mb := hide (bel_grow (Lb.out.alloc hs3 (.cells #[.int .i64 (i : Int), .string (txt b)] 76)) hg4 (fun k hk => by have := (Ha.out k hk).1; omega) (Nat.le_trans hs3 (by simp)))
      have Mo := hide hown4
      have Mg : Hid (w.heap.size + 2 ≤ g4) := hide (by
        rcases hat4 with h | h
        · exact (Ha.out _ h).1
        · rw [h]; simp; have := L2.out.lt; omega)
      clear hown4 hg4 hat4 hlt4
      obtain ⟨c0, c1, c2, c3, f0, f1, f2, f3⟩ := blk4 M1.out
      obtain ⟨d0, d1, d2, d3, e0, e1, e2, e3⟩ := blk4 M2.out))
  refine bodyPost_ret (v := .tuple #[.agg #[.slice As D.sure.length cs, .slice (some ⟨g4, 0, none⟩) (D.queue.length + 1) c4, .int .i64 st, .int .i64 lf], .int .i64 0]) (by simp [results, Try.results26, go_sem, d0, d1, d2, d3]) rfl ?_
  have hbel := bel4 (Mb.out.setCell (p := ⟨w.heap.size, 1, none⟩) (Nat.le_refl _) (.slice (some ⟨g4, 0, none⟩) (D.queue.length + 1) c4)) (Nat.le_succ w.heap.size) (.slice As D.sure.length cs) (.slice (some ⟨g4, 0, none⟩) (D.queue.length + 1) c4) (.int .i64 st) (.int .i64 lf)
  refine ⟨some ⟨g4, 0, none⟩, c4, ?_, ⟨?_, ?_, hok.out⟩, hbel, fun g hg => ?_⟩
  · have e1 : (D.wrote i b).queue.length = D.queue.length + 1 := by simp [Dsk.wrote]
    rw [e1, show ((D.wrote i b).steps : Int) = st from hst.out, show (D.wrote i b).left = lf from hlf.out]
    rfl
  · exact (H.out.below hbel).s
  · have hk : Kp [w.heap.size, w.heap.size + 1] w4 _ := ((((((Kp.refl _ w4).set (p := ⟨w.heap.size, 1, none⟩) (.inl (by simp)) (.slice (some ⟨g4, 0, none⟩) (D.queue.length + 1) c4)).set (p := ⟨w.heap.size + 1, 0, none⟩) (.inl (by simp)) (.slice As D.sure.length cs)).set (p := ⟨w.heap.size + 1, 1, none⟩) (.inl (by simp)) (.slice (some ⟨g4, 0, none⟩) (D.queue.length + 1) c4)).set (p := ⟨w.heap.size + 1, 2, none⟩) (.inl (by simp)) (.int .i64 st)).set (p := ⟨w.heap.size + 1, 3, none⟩) (.inl (by simp)) (.int .i64 lf))
    have := own_base65 (own_kp Mo.out hk (fun g hg => by
      simp only [Value.ownBlock, Option.some.injEq] at hg
      have := Mg.out
      simp; omega)) hbs
    rw [show wsC D.queue ++ [Value.int .i64 (i : Int), Value.string (txt b)] = wsC (D.wrote i b).queue by simp [wsC, Dsk.wrote]] at this
    rw [show (D.wrote i b).queue.length = D.queue.length + 1 by simp [Dsk.wrote]]
    exact this
  · simp only [Value.ownBlock, Option.some.injEq] at hg
    have := Mg.out
    omega
end Go.Proofs.Ytpcaaobninnkaaa
