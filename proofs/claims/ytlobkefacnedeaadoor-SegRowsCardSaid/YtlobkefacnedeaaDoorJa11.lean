import Derived.Test.YtlobkefacnedeaaDoorJa10
import Derived.Test.YtlobkefacnedeaaDoorJa02
import Derived.Test.YtlobkefacnedeaaDoorJa01
import Derived.Deep.DeepCutAuto
import Derived.Deep.QuietTactic
import Derived.BigQuiet
import Derived.Deep.DrawnRows
set_option linter.unusedVariables false
set_option linter.unusedSimpArgs false
/- The walk of seg.Read. -/
namespace Go.Proofs.YtlobkefacnedeaaDoor
open Go.RowKit
set_option maxRecDepth 100000
attribute [local go_sem ↓] Go.wp_at_zero Go.wp_at_succ

theorem etyRow : Ety Tryd.prog 35 26 (.slice none 0 0) 24 := Ety.mk' Tryd.underlying35 (by kernel_rfl) rfl (by omega)
/-- A slice over a whole block of 64 cells. -/
def gV (g : Nat) : Value := .slice (some ⟨g, 0, none⟩) 64 64
/-- Blocks of a disk that were read, each in memory of its own. -/
structure RowT (t : TypeId) (base : Nat) (w : World) (A : Option Addr) (c : Nat) (gs : List Nat) (bs : List (List UInt8)) : Prop where
  own : w.ownsRow base 26 1 (.slice A bs.length c) bs.length (gs.map gV)
  nd : gs.Nodup
  at_ : ∀ (j g : Nat) (b : List UInt8), gs[j]? = some g → bs[j]? = some b → base ≤ g ∧ b.length = 64 ∧ Blk w g t (u8s b).toArray
theorem RowT.len {t : TypeId} {base c : Nat} {w : World} {A : Option Addr} {gs : List Nat} {bs : List (List UInt8)} (h : RowT t base w A c gs bs) : gs.length = bs.length := by
  have := h.own.1
  rw [List.length_map] at this
  omega
theorem RowT.kt {t : TypeId} {base b c : Nat} {w w' : World} {A : Option Addr} {gs : List Nat} {bs : List (List UInt8)} {T : List TypeId} (h : RowT t base w A c gs bs) (hk : Kt T b w w') (h1 : 26 ∉ T) (h2 : t ∉ T) : RowT t base w' A c gs bs :=
  ⟨own_ktR h.own hk h1, h.nd, fun j g b hg hb => by
    obtain ⟨k1, k2, k3⟩ := h.at_ j g b hg hb
    exact ⟨k1, k2, k3.kt hk h2⟩⟩
theorem RowT.below {t : TypeId} {base c : Nat} {w w' : World} {A : Option Addr} {gs : List Nat} {bs : List (List UInt8)} (h : RowT t base w A c gs bs) (hb : Below w.heap.size w w') : RowT t base w' A c gs bs := h.kt (T := []) (Kt.of_below (base := 0) hb) (by simp) (by simp)
theorem RowT.nil {t : TypeId} {base : Nat} {w : World} : RowT t base w none 0 [] [] := ⟨World.ownsRow_nil _ _ _ _, List.nodup_nil, by simp⟩
theorem RowT.lt {t : TypeId} {base c : Nat} {w : World} {A : Option Addr} {gs : List Nat} {bs : List (List UInt8)} (h : RowT t base w A c gs bs) : ∀ g ∈ gs, g < w.heap.size := fun g hg => by
  obtain ⟨j, hj, e⟩ := List.getElem_of_mem hg
  have hl := h.len
  exact (h.at_ j g _ (by rw [List.getElem?_eq_getElem hj, e]) (List.getElem?_eq_getElem (show j < bs.length by omega))).2.2.lt
/-- One more block. -/
theorem RowT.app {t : TypeId} {base c c3 b : Nat} {w w' : World} {A A3 : Option Addr} {gs : List Nat} {bs : List (List UInt8)} {g : Nat} {l : List UInt8} {T : List TypeId} (h : RowT t base w A c gs bs) (hk : Kt T b w w') (hT : t ∉ T) (ho : w'.ownsRow base 26 1 (.slice A3 (bs.length + 1) c3) (bs.length + 1) (gs.map gV ++ [gV g]))
    (hg : ∀ x ∈ gs, x ≠ g) (hb : base ≤ g) (hl : l.length = 64) (hB : Blk w' g t (u8s l).toArray) : RowT t base w' A3 c3 (gs ++ [g]) (bs ++ [l]) := by
  have hlen := h.len
  refine ⟨by rw [List.length_append, List.length_singleton, List.map_append]; exact ho, ?_, fun j x y hx hy => ?_⟩
  · rw [List.nodup_append]
    exact ⟨h.nd, by simp, fun a ha b hb => by rw [List.mem_singleton] at hb; subst hb; exact hg a ha⟩
  · rcases Nat.lt_or_ge j gs.length with hj | hj
    · rw [List.getElem?_append_left hj] at hx
      rw [List.getElem?_append_left (by omega)] at hy
      obtain ⟨k1, k2, k3⟩ := h.at_ j x y hx hy
      exact ⟨k1, k2, k3.kt hk hT⟩
    · rw [List.getElem?_append_right hj] at hx
      rw [List.getElem?_append_right (by omega)] at hy
      have hj0 : j - gs.length = 0 := by
        have := (List.getElem?_eq_some_iff.1 hx).1
        simpa using this
      rw [← hlen, hj0] at hy
      rw [hj0] at hx
      simp only [List.getElem?_cons_zero, Option.some.injEq] at hx hy
      subst hx hy
      exact ⟨hb, hl, hB⟩
theorem rows_ofD {t : TypeId} (w : World) : ∀ (gs : List Nat) (bs : List (List UInt8)), gs.length = bs.length → (∀ (j g : Nat) (b : List UInt8), gs[j]? = some g → bs[j]? = some b → b.length = 64 ∧ Blk w g t (u8s b).toArray) →
    ∃ rs : List Row, rs.map Row.v = gs.map gV ∧ rowsL rs = bs.flatten ∧ rowsN rs ≤ 64 * bs.length ∧ ∀ r ∈ rs, By w w.heap.size r.a r.n r.l
  | [], [], _, _ => ⟨[], rfl, rfl, Nat.le_refl _, by simp⟩
  | [], _ :: _, h, _ => by simp at h
  | _ :: _, [], h, _ => by simp at h
  | g :: gs, b :: bs, h, hb => by
    obtain ⟨rs, e1, e2, e3, e4⟩ := rows_ofD w gs bs (by simpa using h) (fun j g b hx hb' => hb (j + 1) g b (by simpa using hx) (by simpa using hb'))
    obtain ⟨hl, hB⟩ := hb 0 g b rfl rfl
    refine ⟨⟨some ⟨g, 0, none⟩, 64, 64, b⟩ :: rs, by rw [List.map_cons, e1]; rfl, ?_, ?_, ?_⟩
    · show b ++ rowsL rs = _
      rw [e2]
      rfl
    · show ((64 :: rs.map Row.n) : List Nat).sum ≤ _
      rw [List.sum_cons, List.length_cons]
      have : (rs.map Row.n).sum ≤ 64 * bs.length := e3
      omega
    · intro r hr
      rcases List.mem_cons.1 hr with rfl | hr
      · exact by_blk hB hl
      · exact e4 r hr
theorem RowT.rows {t : TypeId} {base c : Nat} {w : World} {A : Option Addr} {gs : List Nat} {bs : List (List UInt8)} (h : RowT t base w A c gs bs) : ∃ rs : List Row, Sl w w.heap.size A bs.length (rs.map Row.v) ∧ (∀ r ∈ rs, By w w.heap.size r.a r.n r.l) ∧ rowsL rs = bs.flatten ∧ rowsN rs ≤ 64 * bs.length := by
  obtain ⟨rs, k1, k2, k3, k4⟩ := rows_ofD w gs bs h.len (fun j g b hg hb => (h.at_ j g b hg hb).2)
  exact ⟨rs, by rw [k1]; exact Sl.of_own h.own, k4, k2, k3⟩
/-- A partial segment that was found, as cells. -/
def fdC (a : Int) (v : PV) (B1 : Option Addr) (d1 : Nat) (B2 : Option Addr) (d2 : Nat) (A3 : Option Addr) (n3 c3 : Nat) : Array Value :=
  #[.int .i64 a, .int .i64 v.e, .int .i64 v.c, .int .i64 v.i, .int .i64 v.p, .int .i64 v.x, .slice B1 v.fs.length d1, .slice B2 v.is.length d2, .slice A3 n3 c3]
structure FdAt (base : Nat) (w : World) (v : PV) (bs : List (List UInt8)) (B1 B2 A3 : Option Addr) (c3 : Nat) (gs : List Nat) : Prop where
  f : FisAt base base w B1 v.fs.length v.fs
  i : IntsAt base base w B2 v.is.length v.is
  b : RowT 122 base w A3 c3 gs bs
theorem FdAt.below {base c3 : Nat} {w w' : World} {v : PV} {bs : List (List UInt8)} {B1 B2 A3 : Option Addr} {gs : List Nat} (h : FdAt base w v bs B1 B2 A3 c3 gs) (hb : Below w.heap.size w w') : FdAt base w' v bs B1 B2 A3 c3 gs := ⟨h.f.below hb, RwAt.below h.i hb, h.b.below hb⟩
theorem FdAt.zero {base : Nat} {w : World} : FdAt base w pv0 [] none none none 0 [] := ⟨FisAt.nil, RwAt.nil, RowT.nil⟩
/-- What Read answers. -/
def RdAns (D : Dsk) (a : Int) (base : Nat) (r : Ending) (w' : World) : Prop :=
  ∃ B1 d1 B2 d2 A3 c3 gs, r = .returned (.tuple #[.agg (fdC (if (rdS D a).1 = 0 then a else 0) (rdS D a).2.1 B1 d1 B2 d2 A3 (rdS D a).2.2.length c3), .int .i64 (rdS D a).1]) ∧ FdAt base w' (rdS D a).2.1 (rdS D a).2.2 B1 B2 A3 c3 gs
def zeroC : Array Value := fdC 0 pv0 none 0 none 0 none 0 0
theorem RdAns.bad {D : Dsk} {a k : Int} {base : Nat} {w' : World} (h : rdS D a = (k, pv0, [])) (hk : k ≠ 0) : RdAns D a base (.returned (.tuple #[.agg zeroC, .int .i64 k])) w' := by
  refine ⟨none, 0, none, 0, none, 0, [], ?_, ?_⟩
  · rw [h, if_neg hk]; rfl
  · rw [h]; exact FdAt.zero
/-- Nine cells stored. -/
theorem set9 {w : World} {g : Nat} {t : TypeId} {y0 y1 y2 y3 y4 y5 y6 y7 y8 : Value} (h : Blk w g t #[y0, y1, y2, y3, y4, y5, y6, y7, y8]) (x0 x1 x2 x3 x4 x5 x6 x7 x8 : Value) :
    Blk (((((((((w.setCell ⟨g, 0, none⟩ x0).setCell ⟨g, 1, none⟩ x1).setCell ⟨g, 2, none⟩ x2).setCell ⟨g, 3, none⟩ x3).setCell ⟨g, 4, none⟩ x4).setCell ⟨g, 5, none⟩ x5).setCell ⟨g, 6, none⟩ x6).setCell ⟨g, 7, none⟩ x7).setCell ⟨g, 8, none⟩ x8) g t #[x0, x1, x2, x3, x4, x5, x6, x7, x8] ∧
    Kp [g] w (((((((((w.setCell ⟨g, 0, none⟩ x0).setCell ⟨g, 1, none⟩ x1).setCell ⟨g, 2, none⟩ x2).setCell ⟨g, 3, none⟩ x3).setCell ⟨g, 4, none⟩ x4).setCell ⟨g, 5, none⟩ x5).setCell ⟨g, 6, none⟩ x6).setCell ⟨g, 7, none⟩ x7).setCell ⟨g, 8, none⟩ x8) := by
  have hm : ∀ i : Nat, (⟨g, i, none⟩ : Addr).block ∈ [g] ∨ w.heap.size ≤ (⟨g, i, none⟩ : Addr).block := fun i => .inl (List.mem_singleton.2 rfl)
  refine ⟨?_, (((((((((Kp.refl [g] w).set (hm 0) x0).set (hm 1) x1).set (hm 2) x2).set (hm 3) x3).set (hm 4) x4).set (hm 5) x5).set (hm 6) x6).set (hm 7) x7).set (hm 8) x8⟩
  have := ((((((((h.set 0 x0).set 1 x1).set 2 x2).set 3 x3).set 4 x4).set 5 x5).set 6 x6).set 7 x7).set 8 x8
  simpa using this
theorem results_cell_slotG {P : Program} {fn : Func} {p q : Tmp} {ty : TypeId} (h : fn.results = #[.cell p ty, .tmp q]) (tmps : Array Value) (w : World) (g : Nat) (t : TypeId) (cs : Array Value) (fr : Nat × Nat) (d : TypeDesc) (v : Value)
    (hp : tmps.getD p undef = .pointer (some ⟨g, 0, none⟩)) (hq : tmps.getD q undef = v) (hg : w.heap[g]? = some (.cells cs t fr))
    (hu : P.underlying ty = some d) (hd : (match d with | .struct _ | .array _ _ => true | _ => false) = true) (hi : (P.info? ty).map (·.size) = some cs.size) :
    (results fn tmps).run P w = .ok (.tuple #[.agg cs, v]) w := by
  have hp' : tmps[p]?.getD undef = .pointer (some ⟨g, 0, none⟩) := by simpa using hp
  have hq' : tmps[q]?.getD undef = v := by simpa using hq
  simp [results, h, hp', hq', asAddr, run_loadVar_row w g t ty cs fr d hg hu hd hi]
theorem op9z {w : World} {g : Nat} {t : TypeId} (h : Blk w g t zeroC) : w.cell? ⟨g, 0, none⟩ = some (.int .i64 0) ∧ w.cell? ⟨g, 1, none⟩ = some (.int .i64 0) ∧ w.cell? ⟨g, 2, none⟩ = some (.int .i64 0) ∧ w.cell? ⟨g, 3, none⟩ = some (.int .i64 0) ∧ w.cell? ⟨g, 4, none⟩ = some (.int .i64 0) ∧
    w.cell? ⟨g, 5, none⟩ = some (.int .i64 0) ∧ w.cell? ⟨g, 6, none⟩ = some (.slice none 0 0) ∧ w.cell? ⟨g, 7, none⟩ = some (.slice none 0 0) ∧ w.cell? ⟨g, 8, none⟩ = some (.slice none 0 0) :=
  ⟨h.cell 0, h.cell 1, h.cell 2, h.cell 3, h.cell 4, h.cell 5, h.cell 6, h.cell 7, h.cell 8⟩
theorem read_lenG {D : Dsk} (h : D.Ok) {i : Nat} (hi : i < D.sure.length) : (D.read i).length = 64 :=
  readQ_len _ _ _ (by rw [List.getD_eq_getElem?_getD, List.getElem?_eq_getElem hi]; exact h.b _ (List.getElem_mem hi)) (fun x hx => (h.q x hx).1)
theorem decS_no {l : List UInt8} (h : ∀ v s, ¬ IsEnc l v s) : decS l = none := by
  cases he : decS l with
  | none => rfl
  | some p => exact absurd (decS_some he) (h _ _)
theorem own_cap128 {w : World} {base n c : Nat} {A : Option Addr} {t : TypeId} {xs : List Value} (h : w.ownsRow base t 1 (.slice A n c) n xs) : n ≤ c ∧ c ≤ 9223372036854775807 := by
  obtain ⟨_, _, e, h1, h2⟩ := own_form h
  injection e with e1 e2 e3
  subst e3
  exact ⟨h1, h2⟩
theorem op9S {w : World} {k : Nat} {t : TypeId} {x0 x1 x2 x3 x4 x5 x6 x7 x8 : Value} (h : Blk w k t #[x0, x1, x2, x3, x4, x5, x6, x7, x8]) :
    w.cell? ⟨k, 0, none⟩ = some x0 ∧ w.cell? ⟨k, 1, none⟩ = some x1 ∧ w.cell? ⟨k, 2, none⟩ = some x2 ∧ w.cell? ⟨k, 3, none⟩ = some x3 ∧ w.cell? ⟨k, 4, none⟩ = some x4 ∧ w.cell? ⟨k, 5, none⟩ = some x5 ∧ w.cell? ⟨k, 6, none⟩ = some x6 ∧ w.cell? ⟨k, 7, none⟩ = some x7 ∧ w.cell? ⟨k, 8, none⟩ = some x8 :=
  ⟨h.cell 0, h.cell 1, h.cell 2, h.cell 3, h.cell 4, h.cell 5, h.cell 6, h.cell 7, h.cell 8⟩
theorem Kt.more {T : List TypeId} {base : Nat} {w w' : World} (h : Kt T base w w') (T' : List TypeId) (hs : ∀ t ∈ T, t ∈ T') : Kt T' base w w' :=
  ⟨h.os, h.tape, h.output, h.size, fun i hi hn => h.block i hi (by
    rcases hn with hn | ⟨t, cs, h1, h2⟩
    · exact .inl hn
    · exact .inr ⟨t, cs, h1, fun hm => h2 (hs t hm)⟩)⟩
theorem ret_rd {K : Ending → World → Prop} {tmps : Array Value} {w : World} {g : Nat} {cs : Array Value} {v : Value} (hp : tmps.getD 4 undef = .pointer (some ⟨g, 0, none⟩)) (hq : tmps.getD 5 undef = v) (hB : Blk w g 39 cs) (hs : cs.size = 9)
    (hK : K (.returned (.tuple #[.agg cs, v])) w) : bodyPost Tryd.prog Tryd.f14 K .ret ⟨tmps, []⟩ w :=
  bodyPost_ret (results_cell_slotG (g := g) (cs := cs) (t := 39) (fr := (0, 0)) rfl _ _ (v := v) (hp := hp) (hq := hq) (hg := hB) (hu := Tryd.underlying39) (hd := rfl) (hi := by rw [hs]; kernel_rfl)) rfl hK

set_option maxHeartbeats 4000000 in
theorem read_any (w0 w : World) (d : Nat) (D : Dsk) (h : LD w0 w d D) (a : Int) (ha64 : I64 a) (sp : SpanAt w0) :
    Calls Tryd.prog 14 #[.pointer (some ⟨d, 0, none⟩), .int .i64 a] w fun r w' => RdAns D a w.heap.size r w' ∧ Below w.heap.size w w' := by
  have H := hide h
  have SP := hide (sp.bel h.bel)
  obtain ⟨N, hN⟩ : ∃ N, N = D.sure.length := ⟨_, rfl⟩
  have HN := hide (show N = D.sure.length ∧ N ≤ 4096 from ⟨hN, by have := h.ok.n; omega⟩)
  have hN4 : N ≤ 4096 := HN.out.2
  have CS := ld_size h
  rw [← hN] at CS
  have h64 : IntKind.i64.wrap ((N : Int) - 2) = (N : Int) - 2 := by rw [IntKind.wrap_i64]; omega
  clear hN h sp
  go_enter Tryd.func14, Tryd.ntmps14
  go_upto_region 1 with fail
  obtain ⟨w1, hw⟩ : ∃ W, W = w.alloc (.cells zeroC 39) := ⟨_, rfl⟩
  have X4 : Hid (Blk w1 w.heap.size 39 zeroC) := hide (by rw [hw]; exact Blk.new _ _ _)
  have BW : Hid (Below w.heap.size w w1) := hide (by rw [hw]; exact (Below.refl _ _).alloc (Nat.le_refl _) _)
  have hw' := hw
  unfold zeroC fdC pv0 at hw'
  simp only [List.length_nil] at hw'
  rw [← hw']
  obtain ⟨g4, hg⟩ : ∃ g, g = w.heap.size := ⟨_, rfl⟩
  have G4 := hide hg
  rw [← hg] at X4 ⊢
  clear hw hw' hg
  by_cases h0 : a < 0
  · have HP := hide (rdS_out (D := D) (a := a) (.inl h0))
    obtain ⟨y0, y1, y2, y3, y4, y5, y6, y7, y8⟩ := op9z X4.out
    have z := X4.out.frozen
    go_wp2_with fail
    clear y0 y1 y2 y3 y4 y5 y6 y7 y8 z
    obtain ⟨S1, S2⟩ := set9 X4.out (.int .i64 0) (.int .i64 0) (.int .i64 0) (.int .i64 0) (.int .i64 0) (.int .i64 0) (.slice none 0 0) (.slice none 0 0) (.slice none 0 0)
    refine ret_rd (g := g4) rfl rfl S1 rfl ⟨RdAns.bad HP.out (by decide), ?_⟩
    exact Below.kp2 BW.out S2 BW.out.size (by simp [G4.out])
  replace CS := hide (ld_size (H.out.below BW.out))
  rw [← HN.out.1] at CS
  go_wp2_with fail
  refine CS.out.mono ?_
  rintro r w2 ⟨rfl, rfl⟩
  clear CS
  by_cases h1 : (N : Int) - 2 < a
  · have HP := hide (rdS_out (D := D) (a := a) (.inr (by rw [← HN.out.1]; exact h1)))
    obtain ⟨y0, y1, y2, y3, y4, y5, y6, y7, y8⟩ := op9z X4.out
    have z := X4.out.frozen
    go_wp2_with fail
    clear y0 y1 y2 y3 y4 y5 y6 y7 y8 z
    obtain ⟨S1, S2⟩ := set9 X4.out (.int .i64 0) (.int .i64 0) (.int .i64 0) (.int .i64 0) (.int .i64 0) (.int .i64 0) (.slice none 0 0) (.slice none 0 0) (.slice none 0 0)
    refine ret_rd (g := g4) rfl rfl S1 rfl ⟨RdAns.bad HP.out (by decide), ?_⟩
    exact Below.kp2 BW.out S2 BW.out.size (by simp [G4.out])
  obtain ⟨k, rfl⟩ : ∃ k : Nat, a = (k : Int) := ⟨a.toNat, by omega⟩
  have hkN : k + 2 ≤ N := by omega
  clear h0 h64
  have R1 := hide (ld_read (H.out.below BW.out) k (by have := HN.out.1; omega))
  go_wp2_with fail
  refine R1.out.mono ?_
  rintro r w2 ⟨ga, rfl, hga, hba, hb⟩
  replace X4 := hide (X4.out.below hb)
  have XA := hide hba
  have GA := hide (show w.heap.size ≤ ga from Nat.le_trans BW.out.size hga)
  replace BW := hide (BW.out.trans (hb.mono BW.out.size))
  clear R1 hga hba hb
  have hk1 : IntKind.i64.wrap ((k : Int) + 1) = ((k + 1 : Nat) : Int) := by rw [IntKind.wrap_i64]; omega
  have R1 := hide (ld_read (H.out.below BW.out) (k + 1) (by have := HN.out.1; omega))
  clear h1
  go_wp2_with fail
  refine R1.out.mono ?_
  rintro r w3 ⟨gb, rfl, hgb, hbb, hb⟩
  replace X4 := hide (X4.out.below hb)
  replace XA := hide (XA.out.below hb)
  have XB := hide hbb
  have GB := hide (show w.heap.size ≤ gb from Nat.le_trans BW.out.size hgb)
  replace BW := hide (BW.out.trans (hb.mono BW.out.size))
  clear R1 hgb hbb hb hk1
  have LA := hide (read_lenG H.out.ok (i := k) (by have := HN.out.1; omega))
  have LB := hide (read_lenG H.out.ok (i := k + 1) (by have := HN.out.1; omega))
  obtain ⟨la, hla⟩ : ∃ l, l = D.read k := ⟨_, rfl⟩
  obtain ⟨lb, hlb⟩ : ∃ l, l = D.read (k + 1) := ⟨_, rfl⟩
  have HL := hide (And.intro hla hlb)
  rw [← hla] at LA XA
  rw [← hlb] at LB XB
  clear hla hlb
  go_wp2_with (
    at_builtin
    refine wpList_app_new _ rfl (.tmp 41) (.tmp 42) _ rfl etyB w3.heap.size ⟨ga, 0, none⟩ 64 64 (u8s la) rfl (by_blk XA.out LA.out) w3.heap.size (some ⟨gb, 0, none⟩) 64 64 (u8s lb) rfl (by_blk XB.out LB.out) (by omega) (by omega) (by omega) ?_
    intro A2 c2 w4 ho hb
    have OA := hide ho
    have SB := hide hb.size
    replace X4 := hide (X4.out.below hb)
    have S3 := hide BW.out.size
    replace BW := hide (BW.out.trans (hb.mono BW.out.size))
    clear ho hb)
  have hc2 := own_cap128 OA.out
  have DC := hide (dec_any A2 128 c2 w4.heap.size (la ++ lb) w4 (by rw [ByT, u8s_append]; exact (RwAt.of_own OA.out).lo_ (Nat.zero_le _)) (Nat.le_refl _) hc2.1 hc2.2 (SP.out.bel BW.out))
  refine DC.out.mono ?_
  rintro r w5 ⟨hd, hb⟩
  replace X4 := hide (X4.out.below hb)
  have S5 := hide BW.out.size
  replace BW := hide (BW.out.trans (hb.mono BW.out.size))
  clear DC hb hc2 OA
  rcases hd with ⟨v, sm, hE, B1, d1, B2, d2, cs, rfl, hO, hI⟩ | ⟨hn, rfl⟩
  rotate_left
  · have HP := hide (rdS_none (D := D) (a := k) (by rw [← HL.out.1, ← HL.out.2]; exact decS_no hn))
    clear hn
    unfold zeroPart partC
    go_upto_region 6 with fail
    obtain ⟨w6, hw⟩ : ∃ W, W = w5.alloc (.cells #[.int .i64 0, .int .i64 0, .int .i64 0, .int .i64 0, .int .i64 0, .slice none 0 0, .slice none 0 0] 25) := ⟨_, rfl⟩
    have ba := (show Below w5.heap.size w5 w6 by rw [hw]; exact (Below.refl _ _).alloc (Nat.le_refl _) _)
    rw [← hw]
    replace X4 := hide (X4.out.below ba)
    replace BW := hide (BW.out.trans (ba.mono BW.out.size))
    clear hw ba
    go_quiet (fail)
    replace X4 := hide (X4.out.drewN nq)
    replace BW := hide (bel_dN BW.out nq)
    generalize w6.drewN nq = w7 at *
    obtain ⟨y0, y1, y2, y3, y4, y5, y6, y7, y8⟩ := op9z X4.out
    have z := X4.out.frozen
    go_wp2_with fail
    clear y0 y1 y2 y3 y4 y5 y6 y7 y8 z
    obtain ⟨S1, S2⟩ := set9 X4.out (.int .i64 0) (.int .i64 0) (.int .i64 0) (.int .i64 0) (.int .i64 0) (.int .i64 0) (.slice none 0 0) (.slice none 0 0) (.slice none 0 0)
    refine ret_rd (g := g4) rfl rfl S1 rfl ⟨RdAns.bad HP.out (by decide), ?_⟩
    exact Below.kp2 BW.out S2 BW.out.size (by simp [G4.out])
  have HE := hide hE
  have HO := hide hO
  have HI := hide ((RwAt.of_own (base := w.heap.size) hI).lo_ S5.out)
  unfold partC
  go_upto_region 6 with fail
  obtain ⟨w6, hw⟩ : ∃ W, W = w5.alloc (.cells #[.int .i64 v.e, .int .i64 v.c, .int .i64 v.i, .int .i64 v.p, .int .i64 v.x, .slice B1 v.fs.length d1, .slice B2 v.is.length d2] 25) := ⟨_, rfl⟩
  have ba := (show Below w5.heap.size w5 w6 by rw [hw]; exact (Below.refl _ _).alloc (Nat.le_refl _) _)
  have X10 : Hid (Blk w6 w5.heap.size 25 #[.int .i64 v.e, .int .i64 v.c, .int .i64 v.i, .int .i64 v.p, .int .i64 v.x, .slice B1 v.fs.length d1, .slice B2 v.is.length d2]) := hide (by rw [hw]; exact Blk.new _ _ _)
  rw [← hw]
  obtain ⟨g10, hg⟩ : ∃ g, g = w5.heap.size := ⟨_, rfl⟩
  have G10 := hide (show w.heap.size ≤ g10 by rw [hg]; exact BW.out.size)
  rw [← hg] at X10 ⊢
  replace X4 := hide (X4.out.below ba)
  replace BW := hide (BW.out.trans (ba.mono BW.out.size))
  replace HO := hide (((HO.out.bq S5.out).fis).below ba)
  replace HI := hide (RwAt.below HI.out ba)
  have BDV := hide (PV.bd hE.1)
  have HNV := hide (show 2 + v.is.length + lsN v.fs = v.n from rfl)
  obtain ⟨n, hn⟩ : ∃ n, n = v.n := ⟨_, rfl⟩
  have HVN := hide (show n = v.n ∧ 2 ≤ n ∧ n ≤ 200 from ⟨hn, by rw [hn]; exact PV.n_bd hE.1⟩)
  have hn200 : n ≤ 200 := HVN.out.2.2
  rw [← hn] at HNV
  clear hw hg hn ba hE hO hI
  have SB := hide (show ∀ W, Below w6.heap.size w6 W → Calls Tryd.prog 27 #[.agg #[.int .i64 v.e, .int .i64 v.c, .int .i64 v.i, .int .i64 v.p, .int .i64 v.x, .slice B1 v.fs.length d1, .slice B2 v.is.length d2]] W fun r w' => r = .returned (.int .i64 (n : Int)) ∧ Below W.heap.size W w' from fun W hW => by
    have := BDV.out
    have h := sblocks_any v.e v.c v.i v.p v.x B1 B2 v.fs.length d1 v.is.length d2 _ _ v.fs W (HO.out.below hW) (by omega) (by omega) (by omega)
    rw [HNV.out] at h
    exact h)
  have CS := hide (show ∀ W, Below w6.heap.size w6 W → Calls Tryd.prog 38 #[.pointer (some ⟨d, 0, none⟩)] W fun e w' => e = .returned (.int .i64 (N : Int)) ∧ W = w' from fun W hW => by
    rw [HN.out.1]
    exact ld_size ((H.out.below BW.out).below hW))
  have hwn : IntKind.i64.wrap ((N : Int) - (n : Int)) = (N : Int) - (n : Int) := by rw [IntKind.wrap_i64]; omega
  have hy := op7 X10.out
  refine wp_region_noPanic ?_
  refine wp_region_held_drew (S := (fun w' => w'.cell? ⟨g10, 0, none⟩ = some (.int .i64 v.e) ∧ w'.cell? ⟨g10, 1, none⟩ = some (.int .i64 v.c) ∧ w'.cell? ⟨g10, 2, none⟩ = some (.int .i64 v.i) ∧ w'.cell? ⟨g10, 3, none⟩ = some (.int .i64 v.p) ∧ w'.cell? ⟨g10, 4, none⟩ = some (.int .i64 v.x) ∧ w'.cell? ⟨g10, 5, none⟩ = some (.slice B1 v.fs.length d1) ∧ w'.cell? ⟨g10, 6, none⟩ = some (.slice B2 v.is.length d2))) (by kernel_rfl) ?_ (fun hHeld => ?_)
  · ((try dsimp only) <;> (first | trivial | assumption | go_keep))
  refine tk 0 ?_
  refine tk 1 ?_
  refine tk 2 ?_
  refine tk 3 ?_
  refine tk 4 ?_
  refine tk 6 ?_
  refine wpAnyH_ready (rs := [5]) (by kernel_rfl) (by simp) ?_
  refine AllReadyH.cons (by simp only [List.getElem?_toArray, List.getElem?_cons_succ, List.getElem?_cons_zero]; rfl) (fun K hK => ?_) ?_
  rotate_left 1
  · exact AllReadyH.nil
  go_simp
  refine (CS.out _ (Below.refl _ _).drew).mono ?_; rintro r wa ⟨rfl, rfl⟩
  refine hK.out _ _ ?_ (fun hHeld2 => ?_)
  · ((try dsimp only) <;> (first | trivial | assumption | go_keep))
  clear hHeld
  have hHeld := hHeld2
  clear hHeld2 hK K
  try simp only [Act.put, List.setIfInBounds_toArray, List.set_cons_zero, List.set_cons_succ]
  clear hy hHeld
  have hHeld := op7 X10.out.drew
  refine wpAnyH_ready (rs := [7]) (by kernel_rfl) (by simp) ?_
  refine AllReadyH.cons (by simp only [List.getElem?_toArray, List.getElem?_cons_succ, List.getElem?_cons_zero]; rfl) (fun K hK => ?_) ?_
  rotate_left 1
  · exact AllReadyH.nil
  go_simp
  refine (SB.out _ (Below.refl _ _).drew).mono ?_; rintro r wa ⟨rfl, hb⟩; have BB := hide ((Below.refl w6.heap.size w6).drew.trans hb); have hy := op7 (X10.out.below BB.out); clear hb
  refine hK.out _ _ ?_ (fun hHeld2 => ?_)
  · ((try dsimp only) <;> (first | trivial | assumption | go_keep))
  clear hHeld
  have hHeld := hHeld2
  clear hHeld2 hK K
  try simp only [Act.put, List.setIfInBounds_toArray, List.set_cons_zero, List.set_cons_succ]
  refine tk 8 ?_
  refine tk 9 ?_
  refine tk 10 ?_
  refine wpAnyH_done (by kernel_rfl) ?_ _
  refine NoPanic.normal ?_
  clear hy hHeld CS hwn SB
  replace X10 := hide (X10.out.below BB.out)
  replace X4 := hide (X4.out.below BB.out)
  replace HO := hide (HO.out.below BB.out)
  replace HI := hide (RwAt.below HI.out BB.out)
  replace BW := hide (BW.out.trans (BB.out.mono BW.out.size))
  clear BB
  by_cases hlong : (N : Int) - n < k
  · have HP := hide (rdS_long (D := D) (a := k) (v := v) (s := sm) (by rw [← HL.out.1, ← HL.out.2]; exact decS_enc HE.out) (by rw [← HN.out.1, ← HVN.out.1]; exact hlong))
    obtain ⟨y0, y1, y2, y3, y4, y5, y6, y7, y8⟩ := op9z X4.out
    have z := X4.out.frozen
    go_wp2_with fail
    clear y0 y1 y2 y3 y4 y5 y6 y7 y8 z
    obtain ⟨S1, S2⟩ := set9 X4.out (.int .i64 0) (.int .i64 0) (.int .i64 0) (.int .i64 0) (.int .i64 0) (.int .i64 0) (.slice none 0 0) (.slice none 0 0) (.slice none 0 0)
    refine ret_rd (g := g4) rfl rfl S1 rfl ⟨RdAns.bad HP.out (by decide), ?_⟩
    exact Below.kp2 BW.out S2 BW.out.size (by simp [G4.out])
  obtain ⟨y0, y1, y2, y3, y4, y5, y6⟩ := op7 X10.out
  go_upto_region 9 with fail
  clear y0 y1 y2 y3 y4 y5 y6
  obtain ⟨w8, hw⟩ : ∃ W, W = wa.alloc (.cells #[.int .i64 (k : Int), .int .i64 v.e, .int .i64 v.c, .int .i64 v.i, .int .i64 v.p, .int .i64 v.x, .slice B1 v.fs.length d1, .slice B2 v.is.length d2, .slice none 0 0] 39) := ⟨_, rfl⟩
  have ba := (show Below wa.heap.size wa w8 by rw [hw]; exact (Below.refl _ _).alloc (Nat.le_refl _) _)
  have X13 : Hid (Blk w8 wa.heap.size 39 #[.int .i64 (k : Int), .int .i64 v.e, .int .i64 v.c, .int .i64 v.i, .int .i64 v.p, .int .i64 v.x, .slice B1 v.fs.length d1, .slice B2 v.is.length d2, .slice none 0 0]) := hide (by rw [hw]; exact Blk.new _ _ _)
  rw [← hw]
  obtain ⟨g13, hg⟩ : ∃ g, g = wa.heap.size := ⟨_, rfl⟩
  have G13 := hide (show w.heap.size ≤ g13 ∧ g4 ≠ g13 by
    have := X4.out.lt
    have := BW.out.size
    omega)
  rw [← hg] at X13 ⊢
  replace X10 := hide (X10.out.below ba)
  replace X4 := hide (X4.out.below ba)
  replace HO := hide (HO.out.below ba)
  replace HI := hide (RwAt.below HI.out ba)
  replace BW := hide (BW.out.trans (ba.mono BW.out.size))
  clear hw hg ba
  have hnk : k + n ≤ N := by omega
  have NL := hide hlong
  clear hlong
  go_wp2_with fail
  go_loopw [14] (fun y wr => ∃ (i j : Nat) (A : Option Addr) (c : Nat) (gs : List Nat), i = j + 2 ∧ i ≤ n ∧ y = .int .i64 (i : Int) ∧ Blk wr g13 39 #[.int .i64 (k : Int), .int .i64 v.e, .int .i64 v.c, .int .i64 v.i, .int .i64 v.p, .int .i64 v.x, .slice B1 v.fs.length d1, .slice B2 v.is.length d2, .slice A j c] ∧ Blk wr g4 39 zeroC ∧ RowT 122 w.heap.size wr A c gs (rdB D (k + 2) j) ∧ Kt [39, 26] w.heap.size w8 wr) (fun y _ => n - (intOf y).toNat)
  case atStart => exact ⟨2, 0, none, 0, [], rfl, HVN.out.2.1, rfl, X13.out, X4.out, RowT.nil, Kt.refl _ _ _⟩
  case round =>
    obtain ⟨i, j, A, c, gs, hij, hj, rfl, hX, hX4, hR, hK⟩ := hrel
    have HIJ := hide hij
    clear hij
    clear X13 X4
    have X13 := hide hX
    have X4 := hide hX4
    have KT := hide hK
    have RD := hide hR
    clear hX hX4 hK hR
    have Y10 := hide (X10.out.kt KT.out (by decide))
    have BR := hide (BW.out.trans (KT.out.below BW.out.size))
    have HO2 := hide (HO.out.kt KT.out (by decide) (by decide))
    have SB := hide (show Calls Tryd.prog 27 #[.agg #[.int .i64 v.e, .int .i64 v.c, .int .i64 v.i, .int .i64 v.p, .int .i64 v.x, .slice B1 v.fs.length d1, .slice B2 v.is.length d2]] wr fun r w' => r = .returned (.int .i64 (n : Int)) ∧ Below wr.heap.size wr w' by
      have := BDV.out
      have h := sblocks_any v.e v.c v.i v.p v.x B1 B2 v.fs.length d1 v.is.length d2 _ _ v.fs wr HO2.out (by omega) (by omega) (by omega)
      rw [HNV.out] at h
      exact h)
    obtain ⟨y0, y1, y2, y3, y4, y5, y6⟩ := op7 Y10.out
    go_wp2_with fail
    clear y0 y1 y2 y3 y4 y5 y6
    refine SB.out.mono ?_
    rintro r w10 ⟨rfl, hb⟩
    replace X13 := hide (X13.out.below hb)
    replace X4 := hide (X4.out.below hb)
    replace RD := hide (RD.out.below hb)
    replace KT := hide (KT.out.trans (Kt.of_below hb))
    replace BR := hide (BR.out.trans (hb.mono BR.out.size))
    clear hb SB HO2 Y10
    by_cases hlt : i < n
    · have hlts : (i : Int) < (n : Int) := by omega
      obtain ⟨q, hq⟩ : ∃ q, q = k + 2 + j := ⟨_, rfl⟩
      have HQ := hide hq
      have hadd : IntKind.i64.wrap ((k : Int) + (i : Int)) = (q : Int) := by have := HIJ.out; rw [IntKind.wrap_i64]; omega
      have R1 := hide (ld_read (H.out.below BR.out) q (by have := HN.out.1; have := HIJ.out; omega))
      have LB := hide (read_lenG H.out.ok (i := q) (by have := HN.out.1; have := HIJ.out; omega))
      clear hq
      go_wp2_with fail
      refine R1.out.mono ?_
      rintro r w11 ⟨gb, rfl, hgb, hbb, hb⟩
      have GB := hide (show w.heap.size ≤ gb ∧ ∀ g ∈ gs, g ≠ gb from ⟨Nat.le_trans BR.out.size hgb, fun g hg e => by have := RD.out.lt g hg; omega⟩)
      replace X13 := hide (X13.out.below hb)
      replace X4 := hide (X4.out.below hb)
      replace RD := hide (RD.out.below hb)
      replace KT := hide (KT.out.trans (Kt.of_below hb))
      have XB := hide hbb
      replace BR := hide (BR.out.trans (hb.mono BR.out.size))
      clear hb hgb hbb R1 hadd
      have y8 := X13.out.cell 8
      simp only [List.getElem?_toArray, List.getElem?_cons_succ, List.getElem?_cons_zero] at y8
      have HJ := hide (show (rdB D (k + 2) j).length = j from rdB_len _ _ _)
      have O := hide RD.out.own
      rw [HJ.out] at O
      have hj100 : j ≤ 1000 := by have := HIJ.out; omega
      go_wp2_with (
        at_builtin
        refine wpList_app _ rfl (.tmp 78) (.tmp 80) _ rfl etyRow w.heap.size (.slice A j c) j _ rfl (own_bel O.out ((Below.refl _ _).alloc (Nat.le_refl _) (.cells #[gV gb] 26))) (w11.heap.size + 1) (some ⟨w11.heap.size, 0, none⟩) 1 1 [gV gb] rfl (sl_newS w11 [gV gb] 26) (by intro u hu; rw [List.mem_singleton] at hu; rw [hu]; rfl) (by omega) (Nat.le_trans BR.out.size (by simp)) ?_
        intro A3 c3 w12 ho hg ha
        have O3 := hide ho
        have K12 := hide (((Kt.refl [39, 26] w.heap.size w11).alloc (.cells #[gV gb] 26)).trans (Kt.gr hg (fun g e => by
          obtain ⟨h1, cs, h2⟩ := own_blkT (own_bel O.out ((Below.refl _ _).alloc (Nat.le_refl _) (.cells #[gV gb] 26))) e
          exact ⟨h1, _, cs, h2, by simp⟩)))
        have X13' := hide (blk_grT (X13.out.alloc (.cells #[gV gb] 26)) (own_bel O.out ((Below.refl _ _).alloc (Nat.le_refl _) (.cells #[gV gb] 26))) (by decide) hg)
        have X4' := hide (blk_grT (X4.out.alloc (.cells #[gV gb] 26)) (own_bel O.out ((Below.refl _ _).alloc (Nat.le_refl _) (.cells #[gV gb] 26))) (by decide) hg)
        have z8 := X13'.out.frozen
        have y8' := X13'.out.cell 8
        simp only [List.getElem?_toArray, List.getElem?_cons_succ, List.getElem?_cons_zero] at y8'
        clear ho hg ha)
      clear y8 y8' z8
      go_roundw
      case rel =>
        have KF := K12.out.set (p := ⟨g13, 8, none⟩) (.inl ⟨G13.out.1, fun t cs hB => by simp [(Blk.type hB X13.out).1]⟩) (.slice A3 (j + 1) c3)
        have XF := X13'.out.set 8 (.slice A3 (j + 1) c3)
        simp only [List.setIfInBounds_toArray, List.set_cons_zero, List.set_cons_succ] at XF
        refine ⟨i + 1, j + 1, A3, c3, gs ++ [gb], by rw [HIJ.out], by omega, by go_num, XF, X4'.out.far G13.out.2 _, ?_, KT.out.trans KF⟩
        rw [rdB_succ, ← HQ.out]
        refine RowT.app RD.out KF (by decide) ?_ GB.out.2 GB.out.1 LB.out (XB.out.kt KF (by decide))
        rw [HJ.out]
        exact own_ktR O3.out ((Kt.refl [39] w.heap.size w12).set (p := ⟨g13, 8, none⟩) (.inl ⟨G13.out.1, fun t cs hB => by simp [(Blk.type hB X13'.out).1]⟩) _) (by decide)
      case measure => simp [intOf]; omega
    · have hlts : ¬ (i : Int) < (n : Int) := by omega
      have HJN := hide (show j = v.n - 2 by have := HIJ.out; have := HVN.out; omega)
      obtain ⟨rs, r1, r2, r3, r4⟩ := RD.out.rows
      have hrl : (rdB D (k + 2) j).length = j := rdB_len _ _ _
      rw [hrl] at r1 r4
      have PT := hide (parts_any rs A j c _ w10 r1 r2 (by have := HIJ.out; omega) (by have := HIJ.out; omega))
      rw [r3] at PT
      obtain ⟨cr, hcr⟩ : ∃ cr, cr = crc (rdB D (k + 2) j).flatten := ⟨_, rfl⟩
      have HCR := hide hcr
      rw [← hcr] at PT
      clear r1 r2 r3 r4 hcr
      have y8 := X13.out.cell 8
      simp only [List.getElem?_toArray, List.getElem?_cons_succ, List.getElem?_cons_zero] at y8
      go_wp2_with fail
      refine PT.out.mono ?_
      rintro r w9 ⟨rfl, rfl⟩
      clear PT y8
      have hD := hide (show decS (D.read k ++ D.read (k + 1)) = some (v, sm) by rw [← HL.out.1, ← HL.out.2]; exact decS_enc HE.out)
      by_cases hcs : cr = sm
      rotate_left
      · have hne : ((cr : Int) != (sm : Int)) = true := bne_iff_ne.2 (by omega)
        have HP := hide (rdS_sum (D := D) (a := k) (v := v) (s := sm) (by have := HN.out.1; omega) hD.out (by have := NL.out; have := HN.out.1; have := HVN.out.1; omega) (by rw [← HJN.out, ← HCR.out]; exact hcs))
        obtain ⟨y0, y1, y2, y3, y4, y5, y6, y7, y8⟩ := op9z X4.out
        have z := X4.out.frozen
        go_wp2_with fail
        clear y0 y1 y2 y3 y4 y5 y6 y7 y8 z
        obtain ⟨S1, S2⟩ := set9 X4.out (.int .i64 0) (.int .i64 0) (.int .i64 0) (.int .i64 0) (.int .i64 0) (.int .i64 0) (.slice none 0 0) (.slice none 0 0) (.slice none 0 0)
        refine ret_rd (g := g4) rfl rfl S1 rfl ⟨RdAns.bad HP.out (by decide), ?_⟩
        exact Below.kp2 BR.out S2 BR.out.size (by simp [G4.out])
      · have hne : ((cr : Int) != (sm : Int)) = false := by simp [hcs]
        have HP := hide (rdS_ok (D := D) (a := k) (v := v) (s := sm) (by have := HN.out.1; omega) hD.out (by have := NL.out; have := HN.out.1; have := HVN.out.1; omega) (by rw [← HJN.out, ← HCR.out]; exact hcs))
        rw [← HJN.out] at HP
        clear hcs
        obtain ⟨y0, y1, y2, y3, y4, y5, y6, y7, y8⟩ := op9z X4.out
        have z := X4.out.frozen
        obtain ⟨x0, x1, x2, x3, x4, x5, x6, x7, x8⟩ := op9S X13.out
        go_wp2_with fail
        clear y0 y1 y2 y3 y4 y5 y6 y7 y8 z x0 x1 x2 x3 x4 x5 x6 x7 x8
        obtain ⟨S1, S2⟩ := set9 X4.out (.int .i64 (k : Int)) (.int .i64 v.e) (.int .i64 v.c) (.int .i64 v.i) (.int .i64 v.p) (.int .i64 v.x) (.slice B1 v.fs.length d1) (.slice B2 v.is.length d2) (.slice A j c)
        refine ret_rd (g := g4) rfl rfl S1 rfl ⟨⟨B1, d1, B2, d2, A, c, gs, ?_, ?_⟩, Below.kp2 BR.out S2 BR.out.size (by simp [G4.out])⟩
        · rw [HP.out, if_pos rfl]
          dsimp only
          rw [hrl]
          rfl
        · have K4 := kt_box S2 X4.out (base := w.heap.size) (by rw [G4.out]; exact Nat.le_refl _)
          have KA := KT.out.trans (K4.more [39, 26] (by simp))
          rw [HP.out]
          exact ⟨HO.out.kt KA (by decide) (by decide), RwAt.kt HI.out KA (by decide), RD.out.kt K4 (by decide) (by decide)⟩
end Go.Proofs.YtlobkefacnedeaaDoor

/- The walk of marllaw15.Blocks. -/
namespace Go.Proofs.YtlobkefacnedeaaDoor
open Go.RowKit
set_option maxRecDepth 100000
attribute [local go_sem ↓] Go.wp_at_zero Go.wp_at_succ

/-- The blocks of a partial segment's items, that go round in data; of the first n. -/
def blkS (n : Nat) (data : List UInt8) : List (List UInt8) := (List.range n).map fun i => round64 (UInt8.ofNat (i + 2) :: data)
theorem blkS_len (n : Nat) (data : List UInt8) : (blkS n data).length = n := by simp [blkS]
theorem blkS_succ (n : Nat) (data : List UInt8) : blkS (n + 1) data = blkS n data ++ [round64 (UInt8.ofNat (n + 2) :: data)] := by simp [blkS, List.range_succ]
theorem blkS_64 (n : Nat) (data : List UInt8) : ∀ b ∈ blkS n data, b.length = 64 := fun b hb => by
  simp only [blkS, List.mem_map, List.mem_range] at hb
  obtain ⟨i, -, rfl⟩ := hb
  exact round64_len _
theorem RowT.bs {base c : Nat} {w : World} {A : Option Addr} {gs : List Nat} {bs : List (List UInt8)} (h : RowT 5 base w A c gs bs) : BsAt base w A bs.length bs := by
  have hl := h.len
  refine ⟨gs.map gV, by rw [List.length_map]; exact hl, rfl, (RwAt.of_own h.own).lo_ (Nat.zero_le _), fun j x b hx hb => ?_⟩
  rw [List.getElem?_map] at hx
  obtain ⟨g, hg, rfl⟩ := Option.map_eq_some_iff.1 hx
  obtain ⟨h1, h2, h3⟩ := h.at_ j g b hg hb
  exact ⟨some ⟨g, 0, none⟩, 64, by rw [h2]; rfl, by omega, by rw [h2]; exact byT_blk h3 h2⟩
theorem RowT.bq {t : TypeId} {base base' c : Nat} {w : World} {A : Option Addr} {gs : List Nat} {bs : List (List UInt8)} (h : RowT t base w A c gs bs) (hb : base' ≤ base) : RowT t base' w A c gs bs :=
  ⟨own_bq h.own hb, h.nd, fun j g b hg hb' => by
    obtain ⟨h1, h2⟩ := h.at_ j g b hg hb'
    exact ⟨Nat.le_trans hb h1, h2⟩⟩
set_option maxHeartbeats 4000000 in
theorem blocks_any (v : PV) (A1 A2 : Option Addr) (n1 c1 n2 c2 lo base : Nat) (A : Option Addr) (m c B : Nat) (data : List UInt8) (w : World) (hf : FisAt lo base w A1 n1 v.fs) (hi : v.is.length = n2) (hn1 : n1 ≤ 1000) (hn2 : n2 ≤ 100000) (hls : lsN v.fs ≤ 100000)
    (hd : By w B A m data) (hB : B ≤ w.heap.size) (hm : m ≤ 100000) (hmc : m ≤ c) :
    Calls Tryd.prog 12 #[.agg (partC v.e v.c v.i v.p v.x A1 n1 c1 A2 n2 c2), .slice A m c] w fun r w' => ∃ A' c' gs, r = .returned (.slice A' (min v.n 200 - 2) c') ∧ RowT 5 w.heap.size w' A' c' gs (blkS (min v.n 200 - 2) data) ∧ Below w.heap.size w w' := by
  have HF := hide hf
  have HD := hide (hd.more hB)
  have HNV := hide (show 2 + n2 + lsN v.fs = v.n by unfold PV.n; rw [hi])
  obtain ⟨n, hn⟩ : ∃ n, n = v.n := ⟨_, rfl⟩
  have hn2' : 2 ≤ n ∧ n ≤ 200002 := ⟨by rw [hn]; unfold PV.n; omega, by rw [hn, ← HNV.out]; omega⟩
  rw [← hn] at HNV ⊢
  clear hn hf hi hd hB
  unfold partC
  go_enter Tryd.func12, Tryd.ntmps12
  go_upto_region 1 with fail
  obtain ⟨w1, hw⟩ : ∃ W, W = w.alloc (.cells #[.int .i64 v.e, .int .i64 v.c, .int .i64 v.i, .int .i64 v.p, .int .i64 v.x, .slice A1 n1 c1, .slice A2 n2 c2] 25) := ⟨_, rfl⟩
  have X2 : Hid (Blk w1 w.heap.size 25 #[.int .i64 v.e, .int .i64 v.c, .int .i64 v.i, .int .i64 v.p, .int .i64 v.x, .slice A1 n1 c1, .slice A2 n2 c2]) := hide (by rw [hw]; exact Blk.new _ _ _)
  have BW : Hid (Below w.heap.size w w1) := hide (by rw [hw]; exact (Below.refl _ _).alloc (Nat.le_refl _) _)
  rw [← hw]
  obtain ⟨g2, hg⟩ : ∃ g, g = w.heap.size := ⟨_, rfl⟩
  rw [← hg] at X2 ⊢
  have HG := hide hg
  clear hw hg
  go_wp2_with fail
  go_loopw [5, 6] (fun x y wr => ∃ (i j : Nat) (A' : Option Addr) (c' : Nat) (gs : List Nat), i = j + 2 ∧ j ≤ min n 200 - 2 ∧ x = .slice A' j c' ∧ y = .int .i64 (i : Int) ∧ Blk wr g2 25 #[.int .i64 v.e, .int .i64 v.c, .int .i64 v.i, .int .i64 v.p, .int .i64 v.x, .slice A1 n1 c1, .slice A2 n2 c2] ∧ RowT 5 g2 wr A' c' gs (blkS j data) ∧ Below g2 w wr) (fun _ y _ => 200 - (intOf y).toNat)
  case atStart => exact ⟨2, 0, none, 0, [], rfl, Nat.zero_le _, rfl, rfl, X2.out, RowT.nil, by rw [HG.out]; exact BW.out⟩
  case round =>
    obtain ⟨i, j, A', c', gs, hij, hj, rfl, rfl, hX, hR, hb⟩ := hrel
    have HIJ := hide hij
    replace X2 := hide hX
    have RT := hide hR
    replace BW := hide (show Below w.heap.size w wr by rw [← HG.out]; exact hb)
    clear hij hX hR hb
    have SB := hide (sblocks_any v.e v.c v.i v.p v.x A1 A2 n1 c1 n2 c2 _ _ v.fs wr (HF.out.below BW.out) (by omega) hn2 hls)
    rw [HNV.out] at SB
    unfold partC at SB
    obtain ⟨y0, y1, y2, y3, y4, y5, y6⟩ := op7 X2.out
    by_cases hlt : i < n ∧ i < 200
    · obtain ⟨hlt, hlt2⟩ := hlt
      have h1 : (i : Int) < (n : Int) := by omega
      have h2 : (i : Int) < 200 := by omega
      have hcv : IntKind.u8.wrap (i : Int) = (((UInt8.ofNat i).toNat : Nat) : Int) := by
        rw [UInt8.toNat_ofNat']
        simp [IntKind.wrap, IntKind.bits, IntKind.signed]
      go_wp2_with fail
      clear y0 y1 y2 y3 y4 y5 y6
      refine SB.out.mono ?_
      rintro r w3 ⟨rfl, hb⟩
      replace X2 := hide (X2.out.below hb)
      replace RT := hide (RT.out.below hb)
      replace BW := hide (BW.out.trans (hb.mono BW.out.size))
      clear hb SB
      obtain ⟨u, hu⟩ : ∃ u, u = UInt8.ofNat i := ⟨_, rfl⟩
      have HU := hide hu
      rw [← hu] at hcv
      clear hu
      go_wp2_with (
        at_builtin
        refine wpList_app _ rfl (.tmp 20) (.tmp 21) _ rfl etyB w3.heap.size (.slice (some ⟨w3.heap.size, 0, none⟩) 1 1) 1 (u8s [u]) rfl (own_bytesS (w := w3) (base := w3.heap.size) (l := [u]) #[.int .u8 ((u.toNat : Nat) : Int)] rfl (Nat.le_refl _) rfl (by omega)) w.heap.size A m c (u8s data) rfl ((HD.out.below BW.out).alloc BW.out.size _) (u8s_one _) (by omega) (by simp) ?_
        intro A3 c3 w4 ho hg ha
        have OU := hide (show OwnBy w4 w3.heap.size A3 (1 + m) c3 (u :: data) from ho)
        have ba := ((Below.refl w3.heap.size w3).alloc (Nat.le_refl _) (.cells #[.int .u8 ((u.toNat : Nat) : Int)] 5)).grown hg (by simp) (fun g hg => by
          simp only [Value.ownBlock, Option.some.injEq] at hg
          omega)
        replace X2 := hide (X2.out.below ba)
        replace RT := hide (RT.out.below ba)
        have S3 := hide (Nat.le_trans BW.out.size ba.size)
        replace BW := hide (BW.out.trans (ba.mono BW.out.size))
        clear ho hg ha ba)
      refine (ld_bytes w4 w4.heap.size A3 (1 + m) c3 (u :: data) (Sl.of_own OU.out) (Nat.le_refl _) (by omega)).mono ?_
      rintro r w5 ⟨gb, rfl, hgb, hbb, hb⟩
      have XB := hide hbb
      have GB := hide (show g2 ≤ gb ∧ ∀ g ∈ gs, g ≠ gb from ⟨by rw [HG.out]; exact Nat.le_trans S3.out hgb, fun g hg e => by have := RT.out.lt g hg; omega⟩)
      replace X2 := hide (X2.out.below hb)
      replace RT := hide (RT.out.below hb)
      replace BW := hide (BW.out.trans (hb.mono BW.out.size))
      clear hb hbb hgb OU S3 hcv
      have HJ := hide (show (blkS j data).length = j from blkS_len _ _)
      have O := hide RT.out.own
      rw [HJ.out] at O
      have hj100 : j ≤ 1000 := by omega
      go_wp2_with (
        at_builtin
        refine wpList_app _ rfl (.tmp 17) (.tmp 24) _ rfl etyRow g2 (.slice A' j c') j _ rfl (own_bel O.out ((Below.refl _ _).alloc (Nat.le_refl _) (.cells #[gV gb] 26))) (w5.heap.size + 1) (some ⟨w5.heap.size, 0, none⟩) 1 1 [gV gb] rfl (sl_newS w5 [gV gb] 26) (by intro u hu; rw [List.mem_singleton] at hu; rw [hu]; rfl) (by omega) (by rw [HG.out]; exact Nat.le_trans BW.out.size (by simp)) ?_
        intro A5 c5 w6 ho hg ha
        have O3 := hide ho
        have K12 := hide (((Kt.refl [26] g2 w5).alloc (.cells #[gV gb] 26)).trans (Kt.gr hg (fun g e => by
          obtain ⟨h1, cs, h2⟩ := own_blkT (own_bel O.out ((Below.refl _ _).alloc (Nat.le_refl _) (.cells #[gV gb] 26))) e
          exact ⟨h1, _, cs, h2, by simp⟩)))
        clear ho hg ha)
      go_roundw
      case rel =>
        refine ⟨i + 1, j + 1, A5, c5, gs ++ [gb], by rw [HIJ.out], by have := HIJ.out; omega, by go_num, by go_num, X2.out.kt K12.out (by decide), ?_, (show Below g2 w w5 by rw [HG.out]; exact BW.out).trans (K12.out.below (by rw [HG.out]; exact BW.out.size))⟩
        rw [blkS_succ, show UInt8.ofNat (j + 2) = u by rw [HU.out, HIJ.out]]
        refine RowT.app RT.out K12.out (by decide) ?_ GB.out.2 GB.out.1 (round64_len _) (XB.out.kt K12.out (by decide))
        rw [HJ.out]
        exact O3.out
      case measure => simp [intOf]; omega
    · have HJE := hide (show j = min n 200 - 2 by have := HIJ.out; omega)
      rcases (show (i < n ∧ ¬ i < 200) ∨ ¬ i < n by omega) with ⟨h1, h2⟩ | h1
      · have h1 : (i : Int) < (n : Int) := by omega
        have h2 : ¬ (i : Int) < 200 := by omega
        clear hlt
        go_wp2_with fail
        clear y0 y1 y2 y3 y4 y5 y6
        refine SB.out.mono ?_
        rintro r w3 ⟨rfl, hb⟩
        go_wp2_with fail
        go_ret
        rw [← HJE.out]
        exact ⟨A', c', gs, rfl, (RT.out.below hb).bq (by rw [HG.out]; exact Nat.le_refl _), BW.out.trans (hb.mono BW.out.size)⟩
      · have h1 : ¬ (i : Int) < (n : Int) := by omega
        clear hlt
        go_wp2_with fail
        clear y0 y1 y2 y3 y4 y5 y6
        refine SB.out.mono ?_
        rintro r w3 ⟨rfl, hb⟩
        go_wp2_with fail
        go_ret
        rw [← HJE.out]
        exact ⟨A', c', gs, rfl, (RT.out.below hb).bq (by rw [HG.out]; exact Nat.le_refl _), BW.out.trans (hb.mono BW.out.size)⟩
end Go.Proofs.YtlobkefacnedeaaDoor

/- The walk over the reference's Ints. -/
namespace Go.Proofs.YtlobkefacnedeaaDoor
open Go.RowKit
set_option maxRecDepth 100000
attribute [local go_sem ↓] Go.wp_at_zero Go.wp_at_succ

theorem sl_intI {w : World} {B n : Nat} {A : Option Addr} {l : List Int} (h : Sl w B A n (intC l)) {j : Nat} (hj : j < n) : ∃ (ad : Addr) (x : Int), A = some ad ∧ l[j]? = some x ∧ w.cell? (ad.add j) = some (.int .i64 x) := by
  obtain ⟨ad, u, hA, -, hu, hc⟩ := h.get hj
  have hl := h.len
  rw [intC_len] at hl
  have hx : l[j]? = some (l[j]'(by omega)) := List.getElem?_eq_getElem _
  refine ⟨ad, _, hA, hx, ?_⟩
  simp only [intC, List.getElem?_map, hx, Option.map_some, Option.some.injEq] at hu
  rw [hc, ← hu]
set_option maxHeartbeats 400000 in
theorem ints_eqI (A A' : Option Addr) (n c c' B B' : Nat) (l : List Int) (w : World) (h : Sl w B A n (intC l)) (h' : Sl w B' A' n (intC l)) (hB : B ≤ w.heap.size) (hB' : B' ≤ w.heap.size) (hn : n ≤ 1000000) :
    Calls Tryd.prog 47 #[.slice A n c, .slice A' n c'] w fun e w' => e = .returned (.bool true) ∧ Below w.heap.size w w' := by
  have H := hide h
  have H' := hide h'
  clear h h'
  go_enter Tryd.func47, Tryd.ntmps47
  go_wp2_with fail
  go_loopw [13] (fun x wr => ∃ j : Nat, j ≤ n ∧ x = .int .i64 (j : Int) ∧ Below w.heap.size w wr) (fun x _ => n - (intOf x).toNat)
  case atStart => exact ⟨0, Nat.zero_le _, rfl, Below.refl _ _⟩
  case round =>
    obtain ⟨j, hj, rfl, hb⟩ := hrel
    have Hb := hide hb
    clear hb
    by_cases hlt : j < n
    · obtain ⟨ad, x, hA, hx, hc⟩ := sl_intI (H.out.below (Hb.out.mono hB)) hlt
      obtain ⟨ad', x', hA', hx', hc'⟩ := sl_intI (H'.out.below (Hb.out.mono hB')) hlt
      rw [hx] at hx'
      injection hx' with hx'
      subst hx' hA hA'
      clear hx
      go_wp2_with fail
      refine wp_region_noPanic ?_
      refine wp_region_held_drew (S := (fun w' => w'.cell? (ad.add j) = some (.int .i64 x) ∧ w'.cell? (ad'.add j) = some (.int .i64 x))) (by kernel_rfl) ?_ (fun hHeld => ?_)
      · ((try dsimp only) <;> (first | trivial | assumption | go_keep))
      refine tk 0 ?_
      refine tk 1 ?_
      refine tk 2 ?_
      refine tk 3 ?_
      refine tk 4 ?_
      refine tk 5 ?_
      refine tk 6 ?_
      refine tk 7 ?_
      refine tk 8 ?_
      refine wpAnyH_done (by kernel_rfl) ?_ _
      refine NoPanic.normal ?_
      go_wp2_with fail
      go_roundw
      case rel => exact ⟨j + 1, by omega, by go_num, Hb.out.drew⟩
      case measure => simp [intOf]; omega
    · go_wp2_with fail
      go_ret
      exact ⟨rfl, Hb.out⟩
theorem ints_neL (A A' : Option Addr) (n n' c c' : Nat) (w : World) (hn : n ≤ 1000000) (hn' : n' ≤ 1000000) (hne : n ≠ n') :
    Calls Tryd.prog 47 #[.slice A n c, .slice A' n' c'] w fun e w' => e = .returned (.bool false) ∧ Below w.heap.size w w' := by
  go_enter Tryd.func47, Tryd.ntmps47
  go_wp2_with fail
  go_ret
  exact ⟨rfl, Below.refl _ _⟩
set_option maxHeartbeats 400000 in
theorem ints_neI (A A' : Option Addr) (n c c' B B' : Nat) (l l' : List Int) (w : World) (h : Sl w B A n (intC l)) (h' : Sl w B' A' n (intC l')) (hB : B ≤ w.heap.size) (hB' : B' ≤ w.heap.size) (hn : n ≤ 1000000) (hne : l ≠ l') :
    Calls Tryd.prog 47 #[.slice A n c, .slice A' n c'] w fun e w' => e = .returned (.bool false) ∧ Below w.heap.size w w' := by
  have H := hide h
  have H' := hide h'
  have HN := hide hne
  have hl := hide h.len
  have hl' := hide h'.len
  clear h h' hne
  go_enter Tryd.func47, Tryd.ntmps47
  go_wp2_with fail
  go_loopw [13] (fun x wr => ∃ j : Nat, j ≤ n ∧ x = .int .i64 (j : Int) ∧ l.take j = l'.take j ∧ Below w.heap.size w wr) (fun x _ => n - (intOf x).toNat)
  case atStart => exact ⟨0, Nat.zero_le _, rfl, rfl, Below.refl _ _⟩
  case round =>
    obtain ⟨j, hj, rfl, ht, hb⟩ := hrel
    have Hb := hide hb
    have HT := hide ht
    clear hb ht
    by_cases hlt : j < n
    · obtain ⟨ad, x, hA, hx, hc⟩ := sl_intI (H.out.below (Hb.out.mono hB)) hlt
      obtain ⟨ad', x', hA', hx', hc'⟩ := sl_intI (H'.out.below (Hb.out.mono hB')) hlt
      subst hA hA'
      by_cases hxx : x = x'
      · subst hxx
        have hT2 : Hid (l.take (j + 1) = l'.take (j + 1)) := hide (by rw [List.take_add_one, List.take_add_one, HT.out, hx, hx'])
        clear hx hx'
        go_wp2_with fail
        refine wp_region_noPanic ?_
        refine wp_region_held_drew (S := (fun w' => w'.cell? (ad.add j) = some (.int .i64 x) ∧ w'.cell? (ad'.add j) = some (.int .i64 x))) (by kernel_rfl) ?_ (fun hHeld => ?_)
        · ((try dsimp only) <;> (first | trivial | assumption | go_keep))
        refine tk 0 ?_
        refine tk 1 ?_
        refine tk 2 ?_
        refine tk 3 ?_
        refine tk 4 ?_
        refine tk 5 ?_
        refine tk 6 ?_
        refine tk 7 ?_
        refine tk 8 ?_
        refine wpAnyH_done (by kernel_rfl) ?_ _
        refine NoPanic.normal ?_
        go_wp2_with fail
        go_roundw
        case rel => exact ⟨j + 1, by omega, by go_num, hT2.out, Hb.out.drew⟩
        case measure => simp [intOf]; omega
      · have hb1 : (x == x') = false := by rw [beq_eq_false_iff_ne]; exact hxx
        have hb2 : (x != x') = true := by rw [bne_iff_ne]; exact hxx
        clear hx hx' hxx
        go_wp2_with fail
        refine wp_region_noPanic ?_
        refine wp_region_held_drew (S := (fun w' => w'.cell? (ad.add j) = some (.int .i64 x) ∧ w'.cell? (ad'.add j) = some (.int .i64 x'))) (by kernel_rfl) ?_ (fun hHeld => ?_)
        · ((try dsimp only) <;> (first | trivial | assumption | go_keep))
        refine tk 0 ?_
        refine tk 1 ?_
        refine tk 2 ?_
        refine tk 3 ?_
        refine tk 4 ?_
        refine tk 5 ?_
        refine tk 6 ?_
        refine tk 7 ?_
        refine tk 8 ?_
        refine wpAnyH_done (by kernel_rfl) ?_ _
        refine NoPanic.normal ?_
        go_wp2_with fail
        go_ret
        exact ⟨rfl, Hb.out.drew⟩
    · exfalso
      refine HN.out ?_
      have h1 := hl.out
      have h2 := hl'.out
      rw [intC_len] at h1 h2
      have := HT.out
      rwa [List.take_of_length_le (by omega), List.take_of_length_le (by omega)] at this
/-- Both ways. -/
theorem ints_any (A A' : Option Addr) (n n' c c' B B' : Nat) (l l' : List Int) (w : World) (h : Sl w B A n (intC l)) (h' : Sl w B' A' n' (intC l')) (hB : B ≤ w.heap.size) (hB' : B' ≤ w.heap.size) (hn : n ≤ 1000000) (hn' : n' ≤ 1000000) :
    Calls Tryd.prog 47 #[.slice A n c, .slice A' n' c'] w fun e w' => e = .returned (.bool (decide (l = l'))) ∧ Below w.heap.size w w' := by
  by_cases hnn : n = n'
  · subst hnn
    by_cases hl : l = l'
    · subst hl
      rw [decide_eq_true rfl]
      exact ints_eqI A A' n c c' B B' l w h h' hB hB' hn
    · rw [decide_eq_false hl]
      exact ints_neI A A' n c c' B B' l l' w h h' hB hB' hn hl
  · rw [decide_eq_false (fun e => by
      have h1 := h.len
      have h2 := h'.len
      rw [intC_len] at h1 h2
      subst e
      omega)]
    exact ints_neL A A' n n' c c' w hn hn' hnn
end Go.Proofs.YtlobkefacnedeaaDoor
