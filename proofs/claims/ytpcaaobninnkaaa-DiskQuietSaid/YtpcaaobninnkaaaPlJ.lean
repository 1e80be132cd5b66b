/- The program's disk and the reference's disk side by side: what each call of the one leaves of the other. -/
import Derived.Test.YtpcaaobninnkaaaDskTellW
namespace Go.Proofs.Ytpcaaobninnkaaa
open Go.RowKit

/-- The program's disk reads D, the reference's E; no block is of both. -/
structure PJ (w0 w : World) (d : Nat) (D : Dsk) (As : Option Addr) (cs : Nat) (Aq : Option Addr) (cq : Nat) (E : Dsk) : Prop where
  ld : LD w0 w d D
  rm : RefM w w0.heap.size As cs Aq cq E
  os : ∀ g, (Value.slice As 0 0).ownBlock = some g → Out w0 w d D g
  oq : ∀ g, (Value.slice Aq 0 0).ownBlock = some g → Out w0 w d D g
section
variable {w0 w w' : World} {d : Nat} {D D' E E' : Dsk} {As Aq As' Aq' : Option Addr} {cs cq cs' cq' : Nat}
theorem PJ.below (h : PJ w0 w d D As cs Aq cq E) (hb : Below w.heap.size w w') : PJ w0 w' d D As cs Aq cq E :=
  ⟨h.ld.below hb, h.rm.below hb, fun g hg => (h.os g hg).below hb, fun g hg => (h.oq g hg).below hb⟩
theorem PJ.drew (h : PJ w0 w d D As cs Aq cq E) : PJ w0 w.drew d D As cs Aq cq E := h.below (Below.refl _ _).drew
theorem PJ.alloc (h : PJ w0 w d D As cs Aq cq E) (o : Obj) : PJ w0 (w.alloc o) d D As cs Aq cq E := h.below ((Below.refl _ _).alloc (Nat.le_refl _) o)
/-- Behind a call of the program's. -/
theorem PJ.prog (h : PJ w0 w d D As cs Aq cq E) (hl : LD w0 w' d D') {gs : List Nat} (hK : Kp gs w w') (hf : ∀ k, Out w0 w d D k → k ∉ gs ∧ Out w0 w' d D' k) : PJ w0 w' d D' As cs Aq cq E :=
  ⟨hl, h.rm.kp hK (fun g hg => (hf g (h.os g hg)).1) (fun g hg => (hf g (h.oq g hg)).1), fun g hg => (hf g (h.os g hg)).2, fun g hg => (hf g (h.oq g hg)).2⟩
/-- Behind a call of the reference's. -/
theorem PJ.ref (h : PJ w0 w d D As cs Aq cq E) (hb : Below w.heap.size w w') (hr : RefM w' w0.heap.size As' cs' Aq' cq' E')
    (hs : ∀ g, (Value.slice As' 0 0).ownBlock = some g → w.heap.size ≤ g ∨ (Value.slice As 0 0).ownBlock = some g)
    (hq : ∀ g, (Value.slice Aq' 0 0).ownBlock = some g → w.heap.size ≤ g ∨ (Value.slice Aq 0 0).ownBlock = some g) : PJ w0 w' d D As' cs' Aq' cq' E' :=
  ⟨h.ld.below hb, hr, fun g hg => (hs g hg).elim (fun hk => h.ld.out hb hk (hr.sLt g hg).2) (fun hk => (h.os g hk).below hb),
    fun g hg => (hq g hg).elim (fun hk => h.ld.out hb hk (hr.qLt g hg).2) (fun hk => (h.oq g hk).below hb)⟩
theorem PJ.to (h : PJ w0 w d D As cs Aq cq E) (e1 : E'.sure = E.sure) (e2 : E'.queue = E.queue) (ok : E'.Ok) : PJ w0 w d D As cs Aq cq E' :=
  ⟨h.ld, h.rm.to e1 e2 ok, h.os, h.oq⟩
theorem ld_arm_ok2 (h : LD w0 w d D) (n : Int) (h0 : 0 ≤ n) (h1 : n ≤ 9223372036854775807) (hl : D.left ≠ 0) : Calls Try.prog 20 #[.pointer (some ⟨d, 0, none⟩), .int .i64 n] w fun e w' => e = .returned (.int .i64 0) ∧ LD w0 w' d { D with left := n } ∧
      ∃ gs, Kp gs w w' ∧ ∀ k, Out w0 w d D k → k ∉ gs ∧ Out w0 w' d { D with left := n } k := by
  obtain ⟨s, v, hD⟩ := h.ex
  refine (arm_ok w _ d s v D n hD h0 h1 hl).mono ?_
  rintro e w' ⟨rfl, hD', hk⟩
  refine ⟨rfl, ⟨⟨s, v, hD'⟩, Below.kp2 h.bel hk h.bel.size (by simpa using hD.db)⟩, [d], hk, fun k hn => ?_⟩
  obtain ⟨hkl, s2, v2, hD2, n1, n2, n3⟩ := hn
  obtain ⟨rfl, rfl⟩ := dsk_same hD hD2
  exact ⟨by simp [n1], Nat.lt_of_lt_of_le hkl hk.size, s, v, hD', n1, n2, n3⟩
/-- A write whose bytes lie at the head of a block that may be longer. -/
theorem ld_write2 (h : LD w0 w d D) (i : Nat) (g c : Nat) (t : TypeId) (b : List UInt8) (cs : Array Value) (hi : i < D.sure.length) (hl : D.left ≠ 0) (hs : D.steps < 1000000) (hq : D.queue.length < 1000000) (hb : b.length = 64) (hc : 64 ≤ c) (hg : Blk w g t cs) (hcs : ∀ (j : Nat) (u : Value), (u8s b)[j]? = some u → cs[j]? = some u) (hgd : g ≠ d) :
    Calls Try.prog 14 #[.pointer (some ⟨d, 0, none⟩), .int .i64 (i : Int), .slice (some ⟨g, 0, none⟩) 64 c] w fun e w' => e = .returned (.int .i64 0) ∧ LD w0 w' d (D.wrote i b) ∧
      ∃ gs, Kp gs w w' ∧ ∀ k, Out w0 w d D k → k ∉ gs ∧ Out w0 w' d (D.wrote i b) k := by
  obtain ⟨s, v, hD⟩ := h.ex
  refine (write_ok w _ d s v D i ⟨g, 0, none⟩ c b hD hi hl hs hq hb hc (fun w' hk j u hu => by
    rw [Addr.add_mid, Nat.zero_add, (hg.kp hk (by simpa using hgd)).cell]
    exact hcs j u hu)).mono ?_
  rintro e w' ⟨rfl, v', hD', hk, hnew⟩
  refine ⟨rfl, ⟨⟨s, v', hD'⟩, ?_⟩, d :: v.ownBlock.toList, hk (d :: v.ownBlock.toList) (by simp) (fun g hg => by simp [hg]), fun k hn => ?_⟩
  · refine Below.kp2 h.bel (hk (d :: v.ownBlock.toList) (by simp) (fun g hg => by simp [hg])) h.bel.size (fun g hg => ?_)
    rcases List.mem_cons.1 hg with rfl | hg
    · exact hD.db
    · exact (dsk_own hD (by simpa using hg)).1
  · obtain ⟨hkl, s2, v2, hD2, n1, n2, n3⟩ := hn
    obtain ⟨rfl, rfl⟩ := dsk_same hD hD2
    have hK := hk (d :: v.ownBlock.toList) (by simp) (fun g hg => by simp [hg])
    refine ⟨?_, Nat.lt_of_lt_of_le hkl hK.size, s, v', hD', n1, n2, ?_⟩
    · intro hm
      rcases List.mem_cons.1 hm with rfl | hm
      · exact n1 rfl
      · exact n3 (by simpa using hm)
    · intro e
      rcases hnew k e with h | h
      · exact n3 h
      · omega
end

/-- Beside the two disks a third one, that came of a crash: its blocks lie above B and are none of the old one's. -/
structure PC (w0 w : World) (B d : Nat) (D : Dsk) (c : Nat) (C : Dsk) (As : Option Addr) (cs : Nat) (Aq : Option Addr) (cq : Nat) (E : Dsk) : Prop where
  old : PJ w0 w d D As cs Aq cq E
  new : ∃ s v, DskA w B c s v C ∧ ∀ k, (k = c ∨ k = s ∨ v.ownBlock = some k) → Out w0 w d D k
  hB : w0.heap.size ≤ B
  ls : ∀ g, (Value.slice As 0 0).ownBlock = some g → g < B
  lq : ∀ g, (Value.slice Aq 0 0).ownBlock = some g → g < B
section
variable {w0 w w' : World} {B d c : Nat} {D D' C E E' : Dsk} {As Aq As' Aq' : Option Addr} {cs cq cs' cq' : Nat}
theorem PC.of (h : PJ w0 w d D As cs Aq cq E) (hc : LD w w' c C) : PC w0 w' w.heap.size d D c C As cs Aq cq E := by
  obtain ⟨s, v, hC⟩ := hc.ex
  refine ⟨h.below hc.bel, ⟨s, v, hC, ?_⟩, h.ld.sz, fun g hg => (h.rm.sLt g hg).2, fun g hg => (h.rm.qLt g hg).2⟩
  rintro k (rfl | rfl | hk)
  · exact h.ld.out hc.bel hC.db hC.hd.lt
  · exact h.ld.out hc.bel hC.sb hC.hs.lt
  · exact h.ld.out hc.bel (dsk_own hC hk).1 (dsk_own hC hk).2
theorem PC.below (h : PC w0 w B d D c C As cs Aq cq E) (hb : Below w.heap.size w w') : PC w0 w' B d D c C As cs Aq cq E := by
  obtain ⟨s, v, hC, ho⟩ := h.new
  exact ⟨h.old.below hb, ⟨s, v, dsk_kp hC (Kp.of_below (gs := []) hb) (by simp) (by simp) (by simp), fun k hk => (ho k hk).below hb⟩, h.hB, h.ls, h.lq⟩
theorem PC.drew (h : PC w0 w B d D c C As cs Aq cq E) : PC w0 w.drew B d D c C As cs Aq cq E := h.below (Below.refl _ _).drew
theorem PC.alloc (h : PC w0 w B d D c C As cs Aq cq E) (o : Obj) : PC w0 (w.alloc o) B d D c C As cs Aq cq E := h.below ((Below.refl _ _).alloc (Nat.le_refl _) o)
theorem PC.prog (h : PC w0 w B d D c C As cs Aq cq E) (hl : LD w0 w' d D') {gs : List Nat} (hK : Kp gs w w') (hf : ∀ k, Out w0 w d D k → k ∉ gs ∧ Out w0 w' d D' k) : PC w0 w' B d D' c C As cs Aq cq E := by
  obtain ⟨s, v, hC, ho⟩ := h.new
  exact ⟨h.old.prog hl hK hf, ⟨s, v, dsk_kp hC hK (hf c (ho c (.inl rfl))).1 (hf s (ho s (.inr (.inl rfl)))).1 (fun g hg => (hf g (ho g (.inr (.inr hg)))).1), fun k hk => (hf k (ho k hk)).2⟩, h.hB, h.ls, h.lq⟩
/-- The old disk is let go. -/
theorem PC.fin (h : PC w0 w B d D c C As cs Aq cq E) : PJ w0 w c C As cs Aq cq E := by
  obtain ⟨s, v, hC, ho⟩ := h.new
  have hC' := dsk_base hC h.hB
  refine ⟨⟨⟨s, v, hC'⟩, h.old.ld.bel⟩, h.old.rm, fun g hg => ⟨(h.old.rm.sLt g hg).2, s, v, hC', ?_, ?_, ?_⟩, fun g hg => ⟨(h.old.rm.qLt g hg).2, s, v, hC', ?_, ?_, ?_⟩⟩
  · have := h.ls g hg; have := hC.db; omega
  · have := h.ls g hg; have := hC.sb; omega
  · intro e; have := h.ls g hg; have := (dsk_own hC e).1; omega
  · have := h.lq g hg; have := hC.db; omega
  · have := h.lq g hg; have := hC.sb; omega
  · intro e; have := h.lq g hg; have := (dsk_own hC e).1; omega
end
end Go.Proofs.Ytpcaaobninnkaaa
