/- The walks over package disk: Arm, Read's refusals, and where a block and a write lie. -/
import Derived.Test.YtfaingklglelnaaDskW
namespace Go.Proofs.Ytfaingklglelnaa
open Go.RowKit

theorem dsk_kp {w w' : World} {base d s : Nat} {v : Value} {D : Dsk} (h : DskA w base d s v D) {gs : List Nat} (k : Kp gs w w') (hd : d ∉ gs) (hs : s ∉ gs) (hv : ∀ g, v.ownBlock = some g → g ∉ gs) : DskA w' base d s v D where
  hd := h.hd.kp k hd
  hs := h.hs.kp k hs
  hq := by
    refine ⟨h.hq.1, ?_⟩
    rcases h.hq.2 with h0 | ⟨g, cap, cur, rfl, h2, h3, h4⟩
    · exact .inl h0
    · have hl : g < w.heap.size := by
        rcases Nat.lt_or_ge g w.heap.size with hl | hg
        · exact hl
        · rw [Array.getElem?_eq_none hg] at h3; cases h3
      exact .inr ⟨g, cap, cur, rfl, h2, (k.block g hl (hv g rfl)).trans h3, h4⟩
  ne := h.ne
  nq := h.nq
  db := h.db
  sb := h.sb
  ok := h.ok
/-- A sure block lies there, byte by byte. -/
theorem fl_mid {α : Type} {f : α → List Value} {k : Nat} (xs : List α) (hk : ∀ x ∈ xs, (f x).length = k) (i : Nat) (x : α) (hx : xs[i]? = some x) (j : Nat) (v : Value) (hv : (f x)[j]? = some v) : (xs.flatMap f)[i * k + j]? = some v := by
  induction xs generalizing i with
  | nil => simp at hx
  | cons y xs ih =>
    have hy := hk y (by simp)
    rw [List.flatMap_cons]
    cases i with
    | zero =>
      simp only [List.getElem?_cons_zero, Option.some.injEq] at hx
      subst hx
      rw [Nat.zero_mul, Nat.zero_add, List.getElem?_append_left (List.getElem?_eq_some_iff.1 hv).1]
      exact hv
    | succ i =>
      rw [List.getElem?_append_right (by rw [hy, Nat.succ_mul]; omega), hy, show (i + 1) * k + j - k = i * k + j by rw [Nat.succ_mul]; omega]
      exact ih (fun z hz => hk z (by simp [hz])) i (by simpa using hx)
theorem get_app_left {a b : Array Value} {i : Nat} {v : Value} (h : a[i]? = some v) : (a ++ b)[i]? = some v := by
  rw [Array.getElem?_append_left (Array.getElem?_eq_some_iff.1 h).1]; exact h
theorem at_sure {w : World} {base d s : Nat} {v : Value} {D : Dsk} (h : DskA w base d s v D) (i : Nat) (b : List UInt8) (hb : D.sure[i]? = some b) : w.rangeAt s (i * 64) (u8s b) := fun j u hu => by
  rw [h.hs.cell]
  refine get_app_left ?_
  have := fl_mid (f := blkC) (k := 64) D.sure (fun x hx => by unfold blkC; rw [u8s_length]; exact h.ok.b x hx) i b hb j u hu
  simpa [sureC, fl] using this
theorem at_queue {w : World} {base d s : Nat} {v : Value} {D : Dsk} (h : DskA w base d s v D) (i : Nat) (x : Nat × List UInt8) (hx : D.queue[i]? = some x) : ∃ g c, v = .slice (some ⟨g, 0, none⟩) D.queue.length c ∧ w.rangeAt g (i * 65) (wrC x) := by
  have hi := (List.getElem?_eq_some_iff.1 hx).1
  rcases h.hq.2 with ⟨_, h0⟩ | ⟨g, cap, cur, rfl, h2, h3, h4, h5, h6, h7⟩
  · omega
  · refine ⟨g, cap, rfl, fun j u hu => ?_⟩
    have e := fl_mid (f := wrC) (k := 65) D.queue (fun y hy => by unfold wrC; rw [List.length_cons, u8s_length, (h.ok.q y hy).1]) i x hx j u hu
    rw [cell_of_row w g (i * 65 + j) cur _ (0, 0) h3]
    have e2 : (cur.toList.take (D.queue.length * 65))[i * 65 + j]? = some u := by rw [h7]; exact e
    rw [List.getElem?_take] at e2
    split at e2
    · simpa using e2
    · cases e2

theorem arm_no (w : World) (base d s : Nat) (v : Value) (D : Dsk) (n : Int) (h : DskA w base d s v D) (hn : n < 0) :
    Calls Try.prog 23 #[.pointer (some ⟨d, 0, none⟩), .int .i64 n] w fun e w' => e = .returned (.int .i64 22) ∧ w = w' := by
  clear h
  go_enter Try.func23, Try.ntmps23
  go_wp2
  go_ret
  exact ⟨rfl, rfl⟩
theorem arm_dead (w : World) (base d s : Nat) (v : Value) (D : Dsk) (n : Int) (h : DskA w base d s v D) (hn : ¬ n < 0) (hl : D.left = 0) :
    Calls Try.prog 23 #[.pointer (some ⟨d, 0, none⟩), .int .i64 n] w fun e w' => e = .returned (.int .i64 102) ∧ w = w' := by
  obtain ⟨c0, c1, c2, c3, f1, f2, f3⟩ := dsk_cells h
  rw [hl] at c3
  clear h hl
  go_enter Try.func23, Try.ntmps23
  go_wp2
  go_ret
  exact ⟨rfl, rfl⟩
theorem DskM.armed {td tb ti : TypeId} {w : World} {base d s : Nat} {v : Value} {D : Dsk} (h : DskM td tb ti w base d s v D) (n : Int) (h0 : 0 ≤ n) (h1 : n ≤ 9223372036854775807) :
    DskM td tb ti (w.setCell ⟨d, 3, none⟩ (.int .i64 n)) base d s v { D with left := n } where
  hd := h.hd.set 3 (.int .i64 n)
  hs := h.hs.far (p := ⟨d, 3, none⟩) h.ne.symm _
  hq := by
    refine ⟨h.hq.1, ?_⟩
    rcases h.hq.2 with h0 | ⟨g, cap, cur, rfl, h2, h3, h4⟩
    · exact .inl h0
    · exact .inr ⟨g, cap, cur, rfl, h2, (Below.heap_setCell _ ⟨d, 3, none⟩ _ g (h.nq g rfl).1).trans h3, h4⟩
  ne := h.ne
  nq := h.nq
  db := h.db
  sb := h.sb
  ok := { h.ok with l := by show -1 ≤ n ∧ n ≤ 9223372036854775807; omega }
theorem arm_ok (w : World) (base d s : Nat) (v : Value) (D : Dsk) (n : Int) (h : DskA w base d s v D) (h0 : 0 ≤ n) (h1 : n ≤ 9223372036854775807) (hl : D.left ≠ 0) :
    Calls Try.prog 23 #[.pointer (some ⟨d, 0, none⟩), .int .i64 n] w fun e w' => e = .returned (.int .i64 0) ∧ DskA w' base d s v { D with left := n } ∧ Kp [d] w w' := by
  obtain ⟨c0, c1, c2, c3, f1, f2, f3⟩ := dsk_cells h
  have H := hide (h.armed n h0 h1)
  obtain ⟨l1, l2⟩ := h.ok.l
  clear h
  have hl' : (D.left == 0) = false := by simpa using hl
  generalize D.left = lf at *
  clear hl
  go_enter Try.func23, Try.ntmps23
  go_wp2
  go_ret
  exact ⟨rfl, H.out, (Kp.refl _ _).set (.inl (by simp)) _⟩

theorem read_no (w : World) (base d s : Nat) (v : Value) (D : Dsk) (i : Int) (h : DskA w base d s v D) (hi : ¬ (0 ≤ i ∧ i < D.sure.length)) :
    Calls Try.prog 22 #[.pointer (some ⟨d, 0, none⟩), .int .i64 i] w fun e w' => e = .returned (.tuple #[.slice none 0 0, .int .i64 22]) ∧ w = w' := by
  obtain ⟨c0, c1, c2, c3, f1, f2, f3⟩ := dsk_cells h
  clear h
  by_cases h1 : i < 0
  · clear hi
    go_enter Try.func22, Try.ntmps22
    go_wp2
    go_ret2
    exact ⟨rfl, rfl⟩
  · have h2 : (D.sure.length : Int) ≤ i := by omega
    clear hi
    go_enter Try.func22, Try.ntmps22
    go_wp2
    go_ret2
    exact ⟨rfl, rfl⟩
end Go.Proofs.Ytfaingklglelnaa
