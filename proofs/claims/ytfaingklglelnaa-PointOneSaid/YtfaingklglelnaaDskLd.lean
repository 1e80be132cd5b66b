/- The disk of a law: all that it owns lies above the memory that was there; its calls, each by one contract. -/
import Derived.Test.YtfaingklglelnaaDskCrW
namespace Go.Proofs.Ytfaingklglelnaa
open Go.RowKit

/-- The disk at block d reads D; it lies above the memory of w0, which is as it was. -/
structure LD (w0 w : World) (d : Nat) (D : Dsk) : Prop where
  ex : ∃ s v, DskA w w0.heap.size d s v D
  bel : Below w0.heap.size w0 w

theorem own_base65 {w : World} {base base' n k : Nat} {e : TypeId} {v : Value} {xs : List Value} (h : w.ownsRow base e k v n xs) (hb : base' ≤ base) : w.ownsRow base' e k v n xs := by
  refine ⟨h.1, ?_⟩
  rcases h.2 with h0 | ⟨g, cap, cur, h1, h2, h3⟩
  · exact .inl h0
  · exact .inr ⟨g, cap, cur, h1, Nat.le_trans hb h2, h3⟩
theorem dsk_base {w : World} {base base' d s : Nat} {v : Value} {D : Dsk} (h : DskA w base d s v D) (hb : base' ≤ base) : DskA w base' d s v D :=
  { h with db := Nat.le_trans hb h.db, sb := Nat.le_trans hb h.sb, hq := own_base65 h.hq hb }
theorem dsk_own {w : World} {base d s : Nat} {v : Value} {D : Dsk} (h : DskA w base d s v D) {g : Nat} (hg : v.ownBlock = some g) : base ≤ g ∧ g < w.heap.size := h.hq.lt g hg

section
variable {w0 w w' : World} {d : Nat} {D : Dsk}
theorem LD.ok (h : LD w0 w d D) : D.Ok := by obtain ⟨_, _, h⟩ := h.ex; exact h.ok
theorem LD.db (h : LD w0 w d D) : w0.heap.size ≤ d := by obtain ⟨_, _, h⟩ := h.ex; exact h.db
theorem LD.lt (h : LD w0 w d D) : d < w.heap.size := by obtain ⟨_, _, h⟩ := h.ex; exact h.hd.lt
theorem LD.sz (h : LD w0 w d D) : w0.heap.size ≤ w.heap.size := h.bel.size
theorem LD.below (h : LD w0 w d D) (hb : Below w.heap.size w w') : LD w0 w' d D := by
  obtain ⟨s, v, hD⟩ := h.ex
  exact ⟨⟨s, v, dsk_kp hD (Kp.of_below (gs := []) hb) (by simp) (by simp) (by simp)⟩, h.bel.trans (hb.mono h.bel.size)⟩
theorem LD.drew (h : LD w0 w d D) : LD w0 w.drew d D := h.below (Below.refl _ _).drew
theorem LD.drewN (h : LD w0 w d D) (n : Nat) : LD w0 (w.drewN n) d D := h.below (bel_dN (Below.refl _ _) n)
theorem LD.alloc (h : LD w0 w d D) (o : Obj) : LD w0 (w.alloc o) d D := h.below ((Below.refl _ _).alloc (Nat.le_refl _) o)
theorem LD.base (h : LD w w' d D) (hb : Below w0.heap.size w0 w) : LD w0 w' d D := by
  obtain ⟨s, v, hD⟩ := h.ex
  exact ⟨⟨s, v, dsk_base hD hb.size⟩, hb.trans (h.bel.mono hb.size)⟩

/-- A block that is none of the disk's. -/
def Out (w0 w : World) (d : Nat) (D : Dsk) (k : Nat) : Prop := k < w.heap.size ∧ ∃ s v, DskA w w0.heap.size d s v D ∧ k ≠ d ∧ k ≠ s ∧ v.ownBlock ≠ some k
theorem dsk_same {base base' s s' : Nat} {v v' : Value} (h : DskA w base d s v D) (h' : DskA w base' d s' v' D) : s = s' ∧ v = v' := by
  have e := h.hd.symm.trans h'.hd
  simp only [Option.some.injEq, Obj.cells.injEq, Array.mk.injEq, List.cons.injEq, Value.slice.injEq, Addr.mk.injEq] at e
  simp at e
  exact e
theorem LD.out (h : LD w0 w d D) (hb : Below w.heap.size w w') {k : Nat} (hk : w.heap.size ≤ k) (hl : k < w'.heap.size) : Out w0 w' d D k := by
  obtain ⟨s, v, hD⟩ := h.ex
  refine ⟨hl, s, v, dsk_kp hD (Kp.of_below (gs := []) hb) (by simp) (by simp) (by simp), ?_, ?_, ?_⟩
  · have := hD.hd.lt; omega
  · have := hD.hs.lt; omega
  · intro e
    have := dsk_own hD e
    omega
theorem Out.below {k : Nat} (h : Out w0 w d D k) (hb : Below w.heap.size w w') : Out w0 w' d D k := by
  obtain ⟨hl, s, v, hD, h1⟩ := h
  exact ⟨Nat.lt_of_lt_of_le hl hb.size, s, v, dsk_kp hD (Kp.of_below (gs := []) hb) (by simp) (by simp) (by simp), h1⟩
/-- Another disk, that lies above B, stays while none of its blocks is written. -/
theorem dsk_keep {B c s : Nat} {v : Value} {C : Dsk} {gs : List Nat} (hC : DskA w B c s v C) (hK : Kp gs w w') (hn : ∀ k, B ≤ k → k < w.heap.size → k ∉ gs) : DskA w' B c s v C :=
  dsk_kp hC hK (hn c hC.db hC.hd.lt) (hn s hC.sb hC.hs.lt) (fun g hg => hn g (dsk_own hC hg).1 (dsk_own hC hg).2)
theorem LD.of {B c s : Nat} {v : Value} {C : Dsk} (hC : DskA w B c s v C) (hB : w0.heap.size ≤ B) (hb : Below w0.heap.size w0 w) : LD w0 w c C := ⟨⟨s, v, dsk_base hC hB⟩, hb⟩
theorem ld_new (w : World) (n : Nat) (h1 : 1 ≤ n) (h2 : n ≤ 4096) :
    Calls Try.prog 19 #[.int .i64 (n : Int)] w fun e w' => ∃ d, e = .returned (.tuple #[.pointer (some ⟨d, 0, none⟩), .int .i64 0]) ∧ LD w w' d (freshD n) := by
  refine (new_yes n w h1 h2).mono ?_
  rintro e w' ⟨d, s, rfl, hD, hb⟩
  exact ⟨d, rfl, ⟨s, _, hD⟩, hb⟩
theorem ld_size (h : LD w0 w d D) : Calls Try.prog 42 #[.pointer (some ⟨d, 0, none⟩)] w fun e w' => e = .returned (.int .i64 (D.sure.length : Int)) ∧ w = w' := by
  obtain ⟨s, v, hD⟩ := h.ex
  exact size_any w _ d s v D hD
theorem ld_steps (h : LD w0 w d D) : Calls Try.prog 50 #[.pointer (some ⟨d, 0, none⟩)] w fun e w' => e = .returned (.int .i64 (D.steps : Int)) ∧ w = w' := by
  obtain ⟨s, v, hD⟩ := h.ex
  exact steps_any w _ d s v D hD
theorem ld_arm_no (h : LD w0 w d D) (n : Int) (hn : n < 0) : Calls Try.prog 23 #[.pointer (some ⟨d, 0, none⟩), .int .i64 n] w fun e w' => e = .returned (.int .i64 22) ∧ w = w' := by
  obtain ⟨s, v, hD⟩ := h.ex
  exact arm_no w _ d s v D n hD hn
theorem ld_arm_dead (h : LD w0 w d D) (n : Int) (hn : ¬ n < 0) (hl : D.left = 0) : Calls Try.prog 23 #[.pointer (some ⟨d, 0, none⟩), .int .i64 n] w fun e w' => e = .returned (.int .i64 102) ∧ w = w' := by
  obtain ⟨s, v, hD⟩ := h.ex
  exact arm_dead w _ d s v D n hD hn hl
theorem ld_arm_ok (h : LD w0 w d D) (n : Int) (h0 : 0 ≤ n) (h1 : n ≤ 9223372036854775807) (hl : D.left ≠ 0) : Calls Try.prog 23 #[.pointer (some ⟨d, 0, none⟩), .int .i64 n] w fun e w' => e = .returned (.int .i64 0) ∧ LD w0 w' d { D with left := n } := by
  obtain ⟨s, v, hD⟩ := h.ex
  refine (arm_ok w _ d s v D n hD h0 h1 hl).mono ?_
  rintro e w' ⟨rfl, hD', hk⟩
  exact ⟨rfl, ⟨s, v, hD'⟩, Below.kp2 h.bel hk h.bel.size (by simpa using hD.db)⟩
theorem ld_read_no (h : LD w0 w d D) (i : Int) (hi : ¬ (0 ≤ i ∧ i < D.sure.length)) : Calls Try.prog 22 #[.pointer (some ⟨d, 0, none⟩), .int .i64 i] w fun e w' => e = .returned (.tuple #[.slice none 0 0, .int .i64 22]) ∧ w = w' := by
  obtain ⟨s, v, hD⟩ := h.ex
  exact read_no w _ d s v D i hD hi
theorem ld_read (h : LD w0 w d D) (i : Nat) (hi : i < D.sure.length) : Calls Try.prog 22 #[.pointer (some ⟨d, 0, none⟩), .int .i64 (i : Int)] w fun e w' => ∃ g, e = .returned (.tuple #[.slice (some ⟨g, 0, none⟩) 64 64, .int .i64 0]) ∧ w.heap.size ≤ g ∧ Blk w' g 99 (u8s (D.read i)).toArray ∧ Below w.heap.size w w' := by
  obtain ⟨s, v, hD⟩ := h.ex
  exact read_yes w _ d s v D i hD hi
theorem read_len {w : World} (h : LD w0 w d D) (i : Nat) (hi : i < D.sure.length) : (D.read i).length = 64 :=
  readQ_len _ _ _ (by rw [List.getD_eq_getElem?_getD, List.getElem?_eq_getElem hi]; exact h.ok.b _ (List.getElem_mem hi)) (fun x hx => (h.ok.q x hx).1)
theorem ld_queue (h : LD w0 w d D) : Calls Try.prog 52 #[.pointer (some ⟨d, 0, none⟩)] w fun e w' => ∃ A c, e = .returned (.slice A D.queue.length c) ∧ w'.ownsRow w.heap.size 3 1 (.slice A D.queue.length c) D.queue.length (atC (D.queue.map (·.1))) ∧ Below w.heap.size w w' := by
  obtain ⟨s, v, hD⟩ := h.ex
  exact queue_any w _ d s v D hD
theorem ld_write_no (h : LD w0 w d D) (i : Int) (B : Option Addr) (n c : Nat) (hi : ¬ (0 ≤ i ∧ i < D.sure.length) ∨ n ≠ 64) (hn : n ≤ 9223372036854775807) : Calls Try.prog 31 #[.pointer (some ⟨d, 0, none⟩), .int .i64 i, .slice B n c] w fun e w' => e = .returned (.int .i64 22) ∧ w = w' := by
  obtain ⟨s, v, hD⟩ := h.ex
  exact write_no w _ d s v D i B n c hD hi hn
theorem ld_write_dead (h : LD w0 w d D) (i : Nat) (B : Option Addr) (c : Nat) (hi : i < D.sure.length) (hl : D.left = 0) : Calls Try.prog 31 #[.pointer (some ⟨d, 0, none⟩), .int .i64 (i : Int), .slice B 64 c] w fun e w' => e = .returned (.int .i64 102) ∧ w = w' := by
  obtain ⟨s, v, hD⟩ := h.ex
  exact write_dead w _ d s v D i B c hD hi hl
/-- A write; its bytes lie at the head of a block that is none of the disk's. -/
theorem ld_write (h : LD w0 w d D) (i : Nat) (g : Nat) (t : TypeId) (b : List UInt8) (cs : Array Value) (hi : i < D.sure.length) (hl : D.left ≠ 0) (hs : D.steps < 1000000) (hq : D.queue.length < 1000000) (hb : b.length = 64) (hg : Blk w g t cs) (hcs : ∀ (j : Nat) (u : Value), (u8s b)[j]? = some u → cs[j]? = some u) (hgd : g ≠ d) :
    Calls Try.prog 31 #[.pointer (some ⟨d, 0, none⟩), .int .i64 (i : Int), .slice (some ⟨g, 0, none⟩) 64 64] w fun e w' => e = .returned (.int .i64 0) ∧ LD w0 w' d (D.wrote i b) ∧
      ∃ gs, Kp gs w w' ∧ ∀ k, Out w0 w d D k → k ∉ gs ∧ Out w0 w' d (D.wrote i b) k := by
  obtain ⟨s, v, hD⟩ := h.ex
  refine (write_ok w _ d s v D i ⟨g, 0, none⟩ 64 b hD hi hl hs hq hb (Nat.le_refl _) (fun w' hk j u hu => by
    rw [Addr.add_mid, Nat.zero_add, (hg.kp hk (by simpa using hgd)).cell]
    exact hcs j u hu)).mono ?_
  rintro e w' ⟨rfl, v', hD', hk, hnew⟩
  refine ⟨rfl, ⟨⟨s, v', hD'⟩, ?_⟩, d :: v.ownBlock.toList, hk (d :: v.ownBlock.toList) (by simp) (fun g hg => by simp [hg]), fun k hn => ?_⟩
  · refine Below.kp2 h.bel (hk (d :: v.ownBlock.toList) (by simp) (fun g hg => by simp [hg])) h.bel.size (fun g hg => ?_)
    rcases List.mem_cons.1 hg with rfl | hg
    · exact hD.db
    · exact (dsk_own hD (by simpa using hg)).1
  · obtain ⟨hkl, s2, v2, hD2, n1, n2, n3⟩ := hn
    obtain ⟨rfl, rfl⟩ := dsk_same hD hD2
    have hK := hk (d :: v.ownBlock.toList) (by simp) (fun g hg => by simp [hg])
    refine ⟨?_, Nat.lt_of_lt_of_le hkl hK.size, s, v', hD', n1, n2, ?_⟩
    · intro hm
      rcases List.mem_cons.1 hm with rfl | hm
      · exact n1 rfl
      · exact n3 (by simpa using hm)
    · intro e
      rcases hnew k e with h | h
      · exact n3 h
      · omega
theorem ld_barrier_dead (h : LD w0 w d D) (hl : D.left = 0) : Calls Try.prog 44 #[.pointer (some ⟨d, 0, none⟩)] w fun e w' => e = .returned (.int .i64 102) ∧ w = w' := by
  obtain ⟨s, v, hD⟩ := h.ex
  exact barrier_dead w _ d s v D hD hl
theorem ld_barrier (h : LD w0 w d D) (hl : D.left ≠ 0) (hs : D.steps < 1000000) : Calls Try.prog 44 #[.pointer (some ⟨d, 0, none⟩)] w fun e w' => e = .returned (.int .i64 0) ∧ LD w0 w' d D.barred ∧
      ∃ gs, Kp gs w w' ∧ ∀ k, Out w0 w d D k → k ∉ gs ∧ Out w0 w' d D.barred k := by
  obtain ⟨s, v, hD⟩ := h.ex
  refine (barrier_ok w _ d s v D hD hl hs).mono ?_
  rintro e w' ⟨rfl, hD', hk⟩
  refine ⟨rfl, ⟨⟨s, _, hD'⟩, Below.kp2 h.bel hk h.bel.size (by simpa using ⟨hD.db, hD.sb⟩)⟩, [d, s], hk, fun k hn => ?_⟩
  obtain ⟨hkl, s2, v2, hD2, n1, n2, n3⟩ := hn
  obtain ⟨rfl, rfl⟩ := dsk_same hD hD2
  exact ⟨by simp [n1, n2], Nat.lt_of_lt_of_le hkl hk.size, s, _, hD', n1, n2, by simp [Value.ownBlock]⟩
theorem ld_crash (h : LD w0 w d D) (h1 : 1 ≤ D.sure.length) (B : Nat) (A : Option Addr) (n c : Nat) (keep : List Bool) (hk : Sl w B A n (keep.map Value.bool)) (hB : B ≤ w.heap.size) (hn : n ≤ 9223372036854775807) (torn sectors : Int) :
    Calls Try.prog 24 #[.pointer (some ⟨d, 0, none⟩), .slice A n c, .int .i64 torn, .int .i64 sectors] w fun e w' => ∃ d' cap pad, e = .returned (.pointer (some ⟨d', 0, none⟩)) ∧ LD w w' d' (D.crashed (crashF keep torn sectors) cap pad) := by
  obtain ⟨s, v, hD⟩ := h.ex
  refine (crash_any w _ d s v D hD h1 B A n c keep hk hB hn torn sectors).mono ?_
  rintro e w' ⟨d', s', cap, pad, rfl, hD', hb⟩
  exact ⟨d', cap, pad, rfl, ⟨s', _, hD'⟩, hb⟩
end
theorem ld_bytes (w : World) (B : Nat) (A : Option Addr) (n c : Nat) (l : List UInt8) (h : By w B A n l) (hB : B ≤ w.heap.size) (hn : n ≤ 9223372036854775807) :
    Calls Try.prog 32 #[.slice A n c] w fun e w' => ∃ g, e = .returned (.slice (some ⟨g, 0, none⟩) 64 64) ∧ w.heap.size ≤ g ∧ Blk w' g 5 (u8s (round64 l)).toArray ∧ Below w.heap.size w w' :=
  (bytes_any w B A n c l h hB hn).mono fun e w' ⟨h1, h2, h3⟩ => ⟨_, h1, Nat.le_refl _, h2, h3⟩
theorem u8s_at {b : List UInt8} : ∀ (j : Nat) (u : Value), (u8s b)[j]? = some u → (u8s b).toArray[j]? = some u := fun j u h => by simpa using h
end Go.Proofs.Ytfaingklglelnaa
