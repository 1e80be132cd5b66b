/- The walks over package imap: gives, New, Alloc. -/
import Derived.Test.YtbmblofhogihdaaProg
import Derived.Test.YtbmblofhogihdaaImS
import Derived.Deep.RegionWith
import Derived.Deep.DeepCutAuto
import Derived.Deep.QuietTactic
import Derived.BigQuiet
import Derived.Deep.RegionHeld3
namespace Go.Proofs.Ytbmblofhogihdaa
open Go.RowKit

abbrev ImpA (w : World) (m l b d : Nat) (L : List Ent) (D : List Bool) : Prop := Imp 55 59 4 w m l b d L D

theorem gives_any (m l b d : Nat) (L : List Ent) (D : List Bool) (w : World) (h : ImpA w m l b d L D) (j : Nat) (hj : j < L.length) :
    Calls Try.prog 19 #[.pointer (some ⟨m, 0, none⟩), .int .i64 ((j : Int) + 1)] w fun e w' => e = .returned (.bool L[j].gives) ∧ w = w' := by
  have hn := h.n
  have c0 := h.hm.cell 0
  have c1 := h.hm.cell 1
  have cb : w.cell? ⟨b, j, none⟩ = some (.bool L[j].busy) := by rw [h.hb.cell, bsy_get L j hj]
  have cv : w.cell? ⟨l, j * 2 + 1, none⟩ = some (.int .i64 (L[j].ver : Int)) := by rw [h.hl.cell, entC_ver L j hj]
  clear h
  by_cases hb : L[j].busy = true
  · have HG := hide (gives_busy hb)
    rw [hb] at cb
    go_enter Try.func19, Try.ntmps19
    go_wp2
    go_ret
    exact ⟨by rw [HG.out]; rfl, rfl⟩
  · simp only [Bool.not_eq_true] at hb
    rw [hb] at cb
    have HG := hide (show L[j].gives = decide ((L[j].ver : Int) < 65535) by unfold Ent.gives; rw [hb]; simp; omega)
    go_enter Try.func19, Try.ntmps19
    go_wp2
    go_ret
    exact ⟨by rw [HG.out]; rfl, rfl⟩

theorem imp_cells {w : World} {m l b d : Nat} {L : List Ent} {D : List Bool} (h : ImpA w m l b d L D) :
    w.cell? ⟨m, 0, none⟩ = some (.slice (some ⟨l, 0, none⟩) L.length L.length) ∧ w.cell? ⟨m, 1, none⟩ = some (.slice (some ⟨b, 0, none⟩) L.length L.length) ∧ w.cell? ⟨m, 2, none⟩ = some (.slice (some ⟨d, 0, none⟩) D.length D.length) :=
  ⟨h.hm.cell 0, h.hm.cell 1, h.hm.cell 2⟩

set_option maxHeartbeats 400000 in
theorem alloc_at (m l b d : Nat) (L : List Ent) (D : List Bool) (w : World) (h : ImpA w m l b d L D) (t : Nat) (ht : t < L.length) (ht1 : 1 ≤ t) (hg : L[t].gives = true) (hno : ∀ i (hi : i < L.length), 1 ≤ i → i < t → L[i].gives = false) :
    Calls Try.prog 10 #[.pointer (some ⟨m, 0, none⟩)] w fun e w' => e = .returned (.tuple #[.int .i64 ((t : Int) + 1), .int .i64 (L[t].ver : Int), .int .i64 0]) ∧
      ∃ k, w' = (w.setCell ⟨b, t, none⟩ (.bool true)).drewN k := by
  have H := hide h
  have hn := h.n
  obtain ⟨c0, c1, c2⟩ := imp_cells h
  have HT := hide hg
  have HN := hide hno
  clear h hg hno
  go_enter Try.func10, Try.ntmps10
  go_wp2_with fail
  go_loop [5] (fun v => ∃ j : Nat, 1 ≤ j ∧ j ≤ t ∧ v = .int .i64 ((j : Int) + 1)) (fun v => t + 1 - (intOf v).toNat)
  case atStart => exact ⟨1, by omega, ht1, rfl⟩
  case round =>
    obtain ⟨j, hj1, hj2, rfl⟩ := hrel
    have hjl : j < L.length := by omega
    by_cases hjt : j < t
    · have HG := hide (HN.out j hjl hj1 hjt)
      go_wp2_with (go_at_call 19; refine (gives_any m l b d L D _ H.out j hjl).mono ?_; rintro e w' ⟨rfl, rfl⟩; rw [HG.out])
      go_round
      case rel => exact ⟨j + 1, by omega, by omega, by go_num⟩
      case measure => simp [intOf]; omega
    · obtain rfl : j = t := by omega
      go_wp2_with fail
      refine (gives_any m l b d L D _ H.out j hjl).mono ?_
      rintro e w' ⟨rfl, rfl⟩
      rw [HT.out]
      have cb : w.frozen? ⟨b, j, none⟩ = false := H.out.hb.frozen j
      have cb2 : w.cell? ⟨b, j, none⟩ = some (.bool L[j].busy) := by rw [H.out.hb.cell, bsy_get L j hjl]
      have cv : w.cell? ⟨l, j * 2 + 1, none⟩ = some (.int .i64 (L[j].ver : Int)) := by rw [H.out.hl.cell, entC_ver L j hjl]
      have n1 := H.out.mb
      have n2 := H.out.lb
      go_wp2_with fail
      go_quiet (fail)
      go_wp2_with fail
      go_ret3
      exact ⟨rfl, _, rfl⟩

set_option maxHeartbeats 400000 in
theorem alloc_none (m l b d : Nat) (L : List Ent) (D : List Bool) (w : World) (h : ImpA w m l b d L D) (hno : ∀ i (hi : i < L.length), 1 ≤ i → L[i].gives = false) :
    Calls Try.prog 10 #[.pointer (some ⟨m, 0, none⟩)] w fun e w' => e = .returned (.tuple #[.int .i64 0, .int .i64 0, .int .i64 23]) ∧ w = w' := by
  have H := hide h
  have hn := h.n
  obtain ⟨c0, c1, c2⟩ := imp_cells h
  have HN := hide hno
  clear h hno
  go_enter Try.func10, Try.ntmps10
  go_wp2_with fail
  go_loop [5] (fun v => ∃ j : Nat, 1 ≤ j ∧ (j = 1 ∨ j ≤ L.length) ∧ v = .int .i64 ((j : Int) + 1)) (fun v => L.length + 1 - (intOf v).toNat)
  case atStart => exact ⟨1, by omega, by omega, rfl⟩
  case round =>
    obtain ⟨j, hj1, hj2, rfl⟩ := hrel
    by_cases hjl : j < L.length
    · have HG := hide (HN.out j hjl hj1)
      go_wp2_with (go_at_call 19; refine (gives_any m l b d L D _ H.out j hjl).mono ?_; rintro e w' ⟨rfl, rfl⟩; rw [HG.out])
      go_round
      case rel => exact ⟨j + 1, by omega, by omega, by go_num⟩
      case measure => simp [intOf]; omega
    · go_wp2_with fail
      go_ret3
      exact ⟨rfl, rfl⟩

/-- Is it no inode that is given? -/
def outB (n : Nat) (i : Int) : Bool := !decide (2 ≤ i ∧ i ≤ n)
theorem outB_yes {n : Nat} {i : Int} (h : ¬ (2 ≤ i ∧ i ≤ n)) : outB n i = true := by unfold outB; simp; omega
theorem outB_no {n : Nat} {i : Int} (h : 2 ≤ i ∧ i ≤ n) : outB n i = false := by unfold outB; simp; omega
theorem out_any (m l b d : Nat) (L : List Ent) (D : List Bool) (w : World) (h : ImpA w m l b d L D) (i : Int) :
    Calls Try.prog 20 #[.pointer (some ⟨m, 0, none⟩), .int .i64 i] w fun e w' => e = .returned (.bool (outB L.length i)) ∧ w = w' := by
  have hn := h.n
  obtain ⟨c0, c1, c2⟩ := imp_cells h
  clear h
  by_cases h2 : i < 2
  · have HG := hide (outB_yes (n := L.length) (i := i) (by omega))
    go_enter Try.func20, Try.ntmps20
    go_wp2
    go_ret
    exact ⟨by rw [HG.out]; rfl, rfl⟩
  · have HG := hide (show outB L.length i = decide ((L.length : Int) < i) by unfold outB; rw [Bool.eq_iff_iff]; simp; omega)
    go_enter Try.func20, Try.ntmps20
    go_wp2
    go_ret
    exact ⟨by rw [HG.out]; rfl, rfl⟩

theorem Imp.set_ent {tm te tb : TypeId} {w : World} {m l b d : Nat} {L : List Ent} {D : List Bool} (h : Imp tm te tb w m l b d L D) (i : Nat) (e : Ent) :
    Imp tm te tb ((((w.setCell ⟨l, i * 2, none⟩ (.int .i64 (e.addr : Int))).setCell ⟨l, i * 2 + 1, none⟩ (.int .i64 (e.ver : Int))).setCell ⟨b, i, none⟩ (.bool e.busy)).setCell ⟨d, i / 8, none⟩ (.bool true)) m l b d (L.set i e) (D.set (i / 8) true) :=
  { h with
    hm := by
      have := (((h.hm.far (p := ⟨l, i * 2, none⟩) h.ml (.int .i64 (e.addr : Int))).far (p := ⟨l, i * 2 + 1, none⟩) h.ml (.int .i64 (e.ver : Int))).far (p := ⟨b, i, none⟩) h.mb (.bool e.busy)).far (p := ⟨d, i / 8, none⟩) h.md (.bool true)
      simpa using this
    hl := by
      rw [← entC_set]
      exact (((h.hl.set (i * 2) (.int .i64 (e.addr : Int))).set (i * 2 + 1) (.int .i64 (e.ver : Int))).far (p := ⟨b, i, none⟩) h.lb (.bool e.busy)).far (p := ⟨d, i / 8, none⟩) h.ld (.bool true)
    hb := by
      rw [← bsy_set L i e.busy e rfl]
      exact (((h.hb.far (p := ⟨l, i * 2, none⟩) h.lb.symm (.int .i64 (e.addr : Int))).far (p := ⟨l, i * 2 + 1, none⟩) h.lb.symm (.int .i64 (e.ver : Int))).set i (.bool e.busy)).far (p := ⟨d, i / 8, none⟩) h.bd (.bool true)
    hd := by
      rw [← bools_set]
      exact (((h.hd.far (p := ⟨l, i * 2, none⟩) h.ld.symm (.int .i64 (e.addr : Int))).far (p := ⟨l, i * 2 + 1, none⟩) h.ld.symm (.int .i64 (e.ver : Int))).far (p := ⟨b, i, none⟩) h.bd.symm (.bool e.busy)).set (i / 8) (.bool true)
    n := by simpa using h.n
    k := by simpa using h.k }

set_option maxRecDepth 100000 in
set_option maxHeartbeats 1000000 in
theorem change_any (m l b d : Nat) (L : List Ent) (D : List Bool) (w : World) (h : ImpA w m l b d L D) (j : Nat) (hj : j < L.length) (e : Ent) :
    Calls Try.prog 21 #[.pointer (some ⟨m, 0, none⟩), .int .i64 ((j : Int) + 1), .agg #[.int .i64 (e.addr : Int), .int .i64 (e.ver : Int)], .bool e.busy] w fun r w' => r = .returned (.tuple #[]) ∧
      ImpA w' m l b d (L.set j e) (D.set (j / 8) true) ∧ Kp [l, b, d] w w' := by
  have H := hide h
  have hn := h.n
  obtain ⟨c0, c1, c2⟩ := imp_cells h
  have lm := h.hm.lt
  have ll := h.hl.lt
  have lb := h.hb.lt
  have ld := h.hd.lt
  have n1 := h.ml
  have n2 := h.mb
  have n3 := h.md
  have n4 := h.lb
  have n5 := h.ld
  have n6 := h.bd
  have v0 : w.cell? ⟨l, j * 2, none⟩ = some (.int .i64 (L[j].addr : Int)) := by rw [h.hl.cell, entC_addr L j hj]
  have v1 : w.cell? ⟨l, j * 2 + 1, none⟩ = some (.int .i64 (L[j].ver : Int)) := by rw [h.hl.cell, entC_ver L j hj]
  have v2 : w.cell? ⟨b, j, none⟩ = some (.bool L[j].busy) := by rw [h.hb.cell, bsy_get L j hj]
  have hd : j / 8 < D.length := by have := h.k; omega
  have v3 : w.cell? ⟨d, j / 8, none⟩ = some (.bool D[j / 8]) := by rw [h.hd.cell, bools_get, List.getElem?_eq_getElem hd]; rfl
  have f0 := h.hl.frozen (j * 2)
  have f1 := h.hl.frozen (j * 2 + 1)
  have f2 := h.hb.frozen j
  have f3 := h.hd.frozen (j / 8)
  clear h
  go_enter Try.func21, Try.ntmps21
  go_wp2_with fail
  go_region
  all_goals go_wp2_with fail
  all_goals
    go_end0
    exact ⟨rfl, ((H.out.set_ent j e).alloc _).drew, ((((((Kp.refl _ _).set (.inl (by simp)) _).set (.inl (by simp)) _).set (.inl (by simp)) _).set (.inl (by simp)) _).alloc _).drew⟩

theorem Kp.imp {gs : List Nat} {tm te tb : TypeId} {w w' : World} {m l b d : Nat} {L : List Ent} {D : List Bool} (h : Imp tm te tb w m l b d L D) (hk : Kp gs w w') (h1 : m ∉ gs) (h2 : l ∉ gs) (h3 : b ∉ gs) (h4 : d ∉ gs) : Imp tm te tb w' m l b d L D :=
  { h with hm := h.hm.kp hk h1, hl := h.hl.kp hk h2, hb := h.hb.kp hk h3, hd := h.hd.kp hk h4 }

/-- What Free leaves of an entry. -/
def freed (e : Ent) : Ent := ⟨0, min (e.ver + 1) 65535, false⟩

set_option maxHeartbeats 400000 in
theorem free_out (m l b d : Nat) (L : List Ent) (D : List Bool) (w : World) (h : ImpA w m l b d L D) (i : Int) (hi : ¬ (2 ≤ i ∧ i ≤ L.length)) :
    Calls Try.prog 11 #[.pointer (some ⟨m, 0, none⟩), .int .i64 i] w fun e w' => e = .returned (.int .i64 22) ∧ w = w' := by
  have H := hide h
  have HO := hide (outB_yes hi)
  clear h hi
  go_enter Try.func11, Try.ntmps11
  go_wp2_with (go_at_call 20; refine (out_any m l b d L D _ H.out _).mono ?_; rintro e w' ⟨rfl, rfl⟩; rw [HO.out])
  go_ret
  exact ⟨rfl, rfl⟩

set_option maxHeartbeats 400000 in
theorem free_none (m l b d : Nat) (L : List Ent) (D : List Bool) (w : World) (h : ImpA w m l b d L D) (j : Nat) (hj : j < L.length) (hj1 : 1 ≤ j) (hb : L[j].busy = false) :
    Calls Try.prog 11 #[.pointer (some ⟨m, 0, none⟩), .int .i64 ((j : Int) + 1)] w fun e w' => e = .returned (.int .i64 2) ∧ w = w' := by
  have H := hide h
  have hn := h.n
  have HO := hide (outB_no (n := L.length) (i := (j : Int) + 1) (by omega))
  obtain ⟨c0, c1, c2⟩ := imp_cells h
  have v2 : w.cell? ⟨b, j, none⟩ = some (.bool L[j].busy) := by rw [h.hb.cell, bsy_get L j hj]
  rw [hb] at v2
  clear h hb
  go_enter Try.func11, Try.ntmps11
  go_wp2_with (go_at_call 20; refine (out_any m l b d L D _ H.out _).mono ?_; rintro e w' ⟨rfl, rfl⟩; rw [HO.out])
  go_ret
  exact ⟨rfl, rfl⟩

set_option maxHeartbeats 400000 in
theorem free_yes (m l b d : Nat) (L : List Ent) (D : List Bool) (w : World) (h : ImpA w m l b d L D) (j : Nat) (hj : j < L.length) (hj1 : 1 ≤ j) (hb : L[j].busy = true) (hv : L[j].ver < 65535) :
    Calls Try.prog 11 #[.pointer (some ⟨m, 0, none⟩), .int .i64 ((j : Int) + 1)] w fun e w' => e = .returned (.int .i64 0) ∧
      ImpA w' m l b d (L.set j ⟨0, L[j].ver + 1, false⟩) (D.set (j / 8) true) ∧ Kp [l, b, d] w w' := by
  have H := hide h
  have hn := h.n
  have HO := hide (outB_no (n := L.length) (i := (j : Int) + 1) (by omega))
  obtain ⟨c0, c1, c2⟩ := imp_cells h
  have v1 : w.cell? ⟨l, j * 2 + 1, none⟩ = some (.int .i64 (L[j].ver : Int)) := by rw [h.hl.cell, entC_ver L j hj]
  have v2 : w.cell? ⟨b, j, none⟩ = some (.bool L[j].busy) := by rw [h.hb.cell, bsy_get L j hj]
  rw [hb] at v2
  clear h hb
  generalize L[j].ver = v at *
  go_enter Try.func11, Try.ntmps11
  go_wp2_with fail
  refine (out_any m l b d L D _ H.out _).mono ?_
  rintro e w' ⟨rfl, rfl⟩
  rw [HO.out]
  go_wp2_with fail
  have C := change_any m l b d L D w H.out j hj ⟨0, v + 1, false⟩
  simp only [show ((v + 1 : Nat) : Int) = (v : Int) + 1 by omega, show ((0 : Nat) : Int) = 0 from rfl] at C
  refine C.mono ?_
  clear C
  rintro e w1 ⟨rfl, hI, hK⟩
  have HI := hide hI
  have HK := hide hK
  clear hI hK
  go_wp2_with fail
  go_ret
  exact ⟨rfl, HI.out, HK.out⟩

set_option maxHeartbeats 400000 in
theorem set_yes (m l b d : Nat) (L : List Ent) (D : List Bool) (w : World) (h : ImpA w m l b d L D) (j : Nat) (hj : j < L.length) (hj1 : 1 ≤ j) (a : Nat) (ha : a < 4096) (hb : L[j].busy = true) :
    Calls Try.prog 14 #[.pointer (some ⟨m, 0, none⟩), .int .i64 ((j : Int) + 1), .int .i64 (a : Int)] w fun e w' => e = .returned (.int .i64 0) ∧
      ImpA w' m l b d (L.set j ⟨a, L[j].ver, true⟩) (D.set (j / 8) true) ∧ Kp [l, b, d] w w' := by
  have H := hide h
  have hn := h.n
  have HO := hide (outB_no (n := L.length) (i := (j : Int) + 1) (by omega))
  obtain ⟨c0, c1, c2⟩ := imp_cells h
  have v1 : w.cell? ⟨l, j * 2 + 1, none⟩ = some (.int .i64 (L[j].ver : Int)) := by rw [h.hl.cell, entC_ver L j hj]
  have v2 : w.cell? ⟨b, j, none⟩ = some (.bool L[j].busy) := by rw [h.hb.cell, bsy_get L j hj]
  rw [hb] at v2
  clear h hb
  generalize L[j].ver = v at *
  have C := hide (change_any m l b d L D w H.out j hj ⟨a, v, true⟩)
  go_enter Try.func14, Try.ntmps14
  go_wp2_with fail
  refine (out_any m l b d L D _ H.out _).mono ?_
  rintro e w' ⟨rfl, rfl⟩
  rw [HO.out]
  go_wp2_with fail
  refine C.out.mono ?_
  clear C
  rintro e w1 ⟨rfl, hI, hK⟩
  have HI := hide hI
  have HK := hide hK
  clear hI hK
  go_wp2_with fail
  go_ret
  exact ⟨rfl, HI.out, HK.out⟩

set_option maxHeartbeats 400000 in
theorem set_none (m l b d : Nat) (L : List Ent) (D : List Bool) (w : World) (h : ImpA w m l b d L D) (j : Nat) (hj : j < L.length) (hj1 : 1 ≤ j) (a : Nat) (ha : a < 4096) (hb : L[j].busy = false) :
    Calls Try.prog 14 #[.pointer (some ⟨m, 0, none⟩), .int .i64 ((j : Int) + 1), .int .i64 (a : Int)] w fun e w' => e = .returned (.int .i64 2) ∧ w = w' := by
  have H := hide h
  have hn := h.n
  have HO := hide (outB_no (n := L.length) (i := (j : Int) + 1) (by omega))
  obtain ⟨c0, c1, c2⟩ := imp_cells h
  have v2 : w.cell? ⟨b, j, none⟩ = some (.bool L[j].busy) := by rw [h.hb.cell, bsy_get L j hj]
  rw [hb] at v2
  clear h hb
  go_enter Try.func14, Try.ntmps14
  go_wp2_with fail
  refine (out_any m l b d L D _ H.out _).mono ?_
  rintro e w' ⟨rfl, rfl⟩
  rw [HO.out]
  go_wp2_with fail
  go_ret
  exact ⟨rfl, rfl⟩

set_option maxHeartbeats 400000 in
theorem set_out (m l b d : Nat) (L : List Ent) (D : List Bool) (w : World) (h : ImpA w m l b d L D) (i a : Int) (hi : ¬ (2 ≤ i ∧ i ≤ L.length)) :
    Calls Try.prog 14 #[.pointer (some ⟨m, 0, none⟩), .int .i64 i, .int .i64 a] w fun e w' => e = .returned (.int .i64 22) ∧ w = w' := by
  have H := hide h
  have HO := hide (outB_yes hi)
  clear h hi
  go_enter Try.func14, Try.ntmps14
  go_wp2_with (go_at_call 20; refine (out_any m l b d L D _ H.out _).mono ?_; rintro e w' ⟨rfl, rfl⟩; rw [HO.out])
  go_ret
  exact ⟨rfl, rfl⟩

set_option maxHeartbeats 400000 in
theorem force_free (m l b d : Nat) (L : List Ent) (D : List Bool) (w : World) (h : ImpA w m l b d L D) (j : Nat) (hj : j < L.length) (hj1 : 1 ≤ j) (v : Nat) (hv : v ≤ 65535) :
    Calls Try.prog 13 #[.pointer (some ⟨m, 0, none⟩), .int .i64 ((j : Int) + 1), .int .i64 (v : Int), .int .i64 0] w fun e w' => e = .returned (.int .i64 0) ∧
      ImpA w' m l b d (L.set j ⟨0, v, false⟩) (D.set (j / 8) true) ∧ Kp [l, b, d] w w' := by
  have H := hide h
  have hn := h.n
  have HO := hide (outB_no (n := L.length) (i := (j : Int) + 1) (by omega))
  clear h
  have C := hide (change_any m l b d L D w H.out j hj ⟨0, v, false⟩)
  go_enter Try.func13, Try.ntmps13
  go_wp2_with fail
  refine (out_any m l b d L D _ H.out _).mono ?_
  rintro e w' ⟨rfl, rfl⟩
  rw [HO.out]
  go_wp2_with fail
  refine C.out.mono ?_
  clear C
  rintro e w1 ⟨rfl, hI, hK⟩
  have HI := hide hI
  have HK := hide hK
  clear hI hK
  go_wp2_with fail
  go_ret
  exact ⟨rfl, HI.out, HK.out⟩

theorem mk_ents (n : Nat) (hn : n ≤ 1000000) (w : World) : (Instr.makeSlice 53 (.int .i64 (n : Int)) (.int .i64 (n : Int))).run Try.prog w = .ok (.slice (some ⟨w.heap.size, 0, none⟩) n n) (w.alloc (.cells (fl entC (List.replicate n noEnt)) 59)) := by
  rw [run_mks (P := Try.prog) (t := 53) (k := 2) (bytes := 16) (z := .agg #[.int .i64 0, .int .i64 0]) Try.underlying53 (by kernel_rfl) .i64 .i64 n (by omega) (by omega) w]
  rw [show madeCells (Value.agg #[.int .i64 0, .int .i64 0]).cells (n * 2) = fl entC (List.replicate n noEnt) from made_fl entC_len (by omega) noEnt n rfl]
theorem mk_bools (n : Nat) (hn : n ≤ 1000000) (w : World) : (Instr.makeSlice 38 (.int .i64 (n : Int)) (.int .i64 (n : Int))).run Try.prog w = .ok (.slice (some ⟨w.heap.size, 0, none⟩) n n) (w.alloc (.cells (bools (List.replicate n false)) 4)) := by
  rw [run_mks (P := Try.prog) (t := 38) (k := 1) (bytes := 1) (z := .bool false) Try.underlying38 (by kernel_rfl) .i64 .i64 n (by omega) (by omega) w]
  rw [madeCells_zs rfl rfl]
  simp [zs, bools]

/-- The map that New makes. -/
def fresh (n : Nat) : List Ent := List.replicate n noEnt

theorem Blk.new' (w : World) (t : TypeId) (cs : Array Value) (g : Nat) (hg : g = w.heap.size) : Blk (w.alloc (.cells cs t)) g t cs := by subst hg; exact Blk.new w t cs
theorem new_mk {w : World} {n : Nat} {m l b d : Nat} (hn : n ≤ 200) (hm : Blk w m 55 #[.slice (some ⟨l, 0, none⟩) n n, .slice (some ⟨b, 0, none⟩) n n, .slice (some ⟨d, 0, none⟩) ((n + 7) / 8) ((n + 7) / 8)])
    (hl : Blk w l 59 (fl entC (List.replicate n noEnt))) (hb : Blk w b 4 (bools (List.replicate n false))) (hd : Blk w d 4 (bools (List.replicate ((n + 7) / 8) false)))
    (ml : m ≠ l) (mb : m ≠ b) (md : m ≠ d) (lb : l ≠ b) (ld : l ≠ d) (bd : b ≠ d) : ImpA w m l b d (fresh n) (List.replicate ((n + 7) / 8) false) := by
  have h1 : (fresh n).length = n := by simp [fresh]
  have h2 : bsy (fresh n) = bools (List.replicate n false) := by simp [fresh, bsy, noEnt]
  exact ⟨by rw [h1, List.length_replicate]; exact hm, hl, by rw [h2]; exact hb, hd, by rw [h1]; exact hn, by simp [fresh], ml, mb, md, lb, ld, bd⟩

set_option maxHeartbeats 1000000 in
theorem new_yes (n : Nat) (w : World) (h4 : 4 ≤ n) (h200 : n ≤ 200) :
    Calls Try.prog 8 #[.int .i64 (n : Int)] w fun e w' => ∃ m l b d, e = .returned (.tuple #[.pointer (some ⟨m, 0, none⟩), .int .i64 0]) ∧ ImpA w' m l b d (fresh n) (List.replicate ((n + 7) / 8) false) ∧
      Below w.heap.size w w' ∧ w.heap.size ≤ m ∧ w.heap.size ≤ l ∧ w.heap.size ≤ b ∧ w.heap.size ≤ d := by
  have k1 := fun w => mk_ents n (by omega) w
  have k2 := fun w => mk_bools n (by omega) w
  have k3 := fun w => mk_bools ((n + 7) / 8) (by omega) w
  rw [show (((n + 7) / 8 : Nat) : Int) = ((n : Int) + 8 - 1) / 8 by omega] at k3
  go_enter Try.func8, Try.ntmps8
  go_wp2_with fail
  go_region
  all_goals go_wp2_with fail
  all_goals
    go_ret2
    refine ⟨_, _, _, _, rfl, new_mk (n := n) h200 (Blk.new' _ _ _ _ (by simp)).drew ?_ ?_ ?_ (by omega) (by omega) (by omega) (by omega) (by omega) (by omega),
      (((((Below.refl _ _).alloc (Nat.le_refl _) _).alloc (by simp) _).alloc (by simp; omega) _).alloc (by simp; omega) _).drew, by omega, by omega, by omega, by omega⟩
    all_goals (first | exact ((((Blk.new' _ _ _ _ (by simp)).alloc _).alloc _).alloc _).drew | exact (((Blk.new' _ _ _ _ (by simp)).alloc _).alloc _).drew | exact ((Blk.new' _ _ _ _ (by simp)).alloc _).drew)

end Go.Proofs.Ytbmblofhogihdaa
