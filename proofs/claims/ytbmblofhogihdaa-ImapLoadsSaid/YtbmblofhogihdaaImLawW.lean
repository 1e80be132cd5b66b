/- The map of a law: all that it owns lies above the memory that was there; its calls, each by one contract. -/
import Derived.Test.YtbmblofhogihdaaImSomeW
namespace Go.Proofs.Ytbmblofhogihdaa
open Go.RowKit

/-- The map at block m reads L; the blocks G are whole and none of the map's; all lie above the memory of w0, which is as it was. -/
structure IM (w0 w : World) (m : Nat) (L : List Ent) (G : List (Nat × TypeId × Array Value)) : Prop where
  ex : ∃ l b d D, ImpA w m l b d L D ∧ w0.heap.size ≤ m ∧ w0.heap.size ≤ l ∧ w0.heap.size ≤ b ∧ w0.heap.size ≤ d ∧
    ∀ x ∈ G, Blk w x.1 x.2.1 x.2.2 ∧ w0.heap.size ≤ x.1 ∧ x.1 ≠ m ∧ x.1 ≠ l ∧ x.1 ≠ b ∧ x.1 ≠ d
  bel : Below w0.heap.size w0 w

section
variable {w0 w w' : World} {m : Nat} {L : List Ent} {G : List (Nat × TypeId × Array Value)}
theorem IM.n (h : IM w0 w m L G) : L.length ≤ 200 := by
  obtain ⟨_, _, _, _, h, _⟩ := h.ex
  exact h.n
theorem IM.kp (h : IM w0 w m L G) (hb : Below w.heap.size w w') : IM w0 w' m L G := by
  obtain ⟨l, b, d, D, hI, h1, h2, h3, h4, hG⟩ := h.ex
  exact ⟨⟨l, b, d, D, hI.kp hb, h1, h2, h3, h4, fun x hx => ⟨(hG x hx).1.below hb, (hG x hx).2⟩⟩, h.bel.trans (hb.mono h.bel.size)⟩
theorem IM.kp3 (h : IM w0 w m L G) {l b d : Nat} {D : List Bool} (hI : ImpA w m l b d L D) (h1 : w0.heap.size ≤ m) (h2 : w0.heap.size ≤ l) (h3 : w0.heap.size ≤ b) (h4 : w0.heap.size ≤ d)
    (hG : ∀ x ∈ G, Blk w x.1 x.2.1 x.2.2 ∧ w0.heap.size ≤ x.1 ∧ x.1 ≠ m ∧ x.1 ≠ l ∧ x.1 ≠ b ∧ x.1 ≠ d)
    {L' : List Ent} {D' : List Bool} (hI' : ImpA w' m l b d L' D') (hk : Kp [l, b, d] w w') : IM w0 w' m L' G := by
  refine ⟨⟨l, b, d, D', hI', h1, h2, h3, h4, fun x hx => ?_⟩, Below.kp2 h.bel hk h.bel.size (by simp; omega)⟩
  obtain ⟨g1, g2, g3, g4, g5, g6⟩ := hG x hx
  exact ⟨g1.kp hk (by simp [g4, g5, g6]), g2, g3, g4, g5, g6⟩
theorem IM.blk (h : IM w0 w m L G) {g : Nat} {t : TypeId} {cs : Array Value} (hx : (g, t, cs) ∈ G) : Blk w g t cs := by
  obtain ⟨_, _, _, _, _, _, _, _, _, hG⟩ := h.ex
  exact (hG _ hx).1
theorem IM.drew (h : IM w0 w m L G) : IM w0 w.drew m L G := h.kp (Below.refl _ _).drew
theorem IM.drewN (h : IM w0 w m L G) (n : Nat) : IM w0 (w.drewN n) m L G := h.kp (bel_dN (Below.refl _ _) n)
theorem IM.alloc (h : IM w0 w m L G) (o : Obj) : IM w0 (w.alloc o) m L G := h.kp ((Below.refl _ _).alloc (Nat.le_refl _) o)
theorem IM.new (h : IM w0 w m L G) (t : TypeId) (cs : Array Value) : IM w0 (w.alloc (.cells cs t)) m L ((w.heap.size, t, cs) :: G) := by
  have hs := h.bel.size
  obtain ⟨l, b, d, D, hI, h1, h2, h3, h4, hG⟩ := (h.alloc (.cells cs t)).ex
  obtain ⟨l', b', d', D', hI', h1', h2', h3', h4', hG'⟩ := h.ex
  have em := (hI.hm.symm.trans (hI'.hm.alloc (.cells cs t)))
  have e : l = l' ∧ b = b' ∧ d = d' := by
    simp only [Option.some.injEq, Obj.cells.injEq, Array.mk.injEq, List.cons.injEq, Value.slice.injEq, Addr.mk.injEq] at em
    simp at em
    omega
  obtain ⟨rfl, rfl, rfl⟩ := e
  refine ⟨⟨l, b, d, D, hI, h1, h2, h3, h4, fun x hx => ?_⟩, (h.alloc _).bel⟩
  rcases List.mem_cons.1 hx with rfl | hx
  · refine ⟨Blk.new _ _ _, hs, ?_, ?_, ?_, ?_⟩
    · have := hI'.hm.lt; show w.heap.size ≠ m; omega
    · have := hI'.hl.lt; show w.heap.size ≠ l; omega
    · have := hI'.hb.lt; show w.heap.size ≠ b; omega
    · have := hI'.hd.lt; show w.heap.size ≠ d; omega
  · exact hG x hx
/-- A block beside the map is written. -/
theorem IM.set (h : IM w0 w m L G) {g i : Nat} {t : TypeId} {cs : Array Value} (v : Value) (hx : ∀ x ∈ G, x.1 = g → x = (g, t, cs)) (hin : (g, t, cs) ∈ G) :
    IM w0 (w.setCell ⟨g, i, none⟩ v) m L (G.map fun x => if x.1 = g then (g, t, cs.setIfInBounds i v) else x) := by
  obtain ⟨l, b, d, D, hI, h1, h2, h3, h4, hG⟩ := h.ex
  obtain ⟨g1, g2, g3, g4, g5, g6⟩ := hG _ hin
  have hI2 : ImpA (w.setCell ⟨g, i, none⟩ v) m l b d L D :=
    { hI with hm := hI.hm.far (p := ⟨g, i, none⟩) g3.symm v, hl := hI.hl.far (p := ⟨g, i, none⟩) g4.symm v, hb := hI.hb.far (p := ⟨g, i, none⟩) g5.symm v, hd := hI.hd.far (p := ⟨g, i, none⟩) g6.symm v }
  refine ⟨⟨l, b, d, D, hI2, h1, h2, h3, h4, fun x hx' => ?_⟩, h.bel.setCell g2 v⟩
  obtain ⟨y, hy, rfl⟩ := List.mem_map.1 hx'
  by_cases e : y.1 = g
  · rw [if_pos e]
    exact ⟨g1.set i v, g2, g3, g4, g5, g6⟩
  · rw [if_neg e]
    obtain ⟨k1, k2⟩ := hG y hy
    exact ⟨k1.far (p := ⟨g, i, none⟩) e v, k2⟩

theorem im_new (w0 w : World) (hb : Below w0.heap.size w0 w) (n : Nat) (h4 : 4 ≤ n) (h200 : n ≤ 200) :
    Calls Try.prog 8 #[.int .i64 (n : Int)] w fun e w' => ∃ m, e = .returned (.tuple #[.pointer (some ⟨m, 0, none⟩), .int .i64 0]) ∧ IM w0 w' m (fresh n) [] := by
  refine (new_yes n w h4 h200).mono ?_
  rintro e w' ⟨m, l, b, d, rfl, hI, hb', h1, h2, h3, h4⟩
  have hs := hb.size
  exact ⟨m, rfl, ⟨l, b, d, _, hI, by omega, by omega, by omega, by omega, fun x hx => by cases hx⟩, hb.trans (hb'.mono hs)⟩
theorem im_alloc (h : IM w0 w m L G) (t : Nat) (e0 : Ent) (h0 : L[t]? = some e0) (ht1 : 1 ≤ t) (hg : e0.gives = true) (hno : ∀ i x, L[i]? = some x → 1 ≤ i → i < t → x.gives = false) (L' : List Ent) (hL : L' = L.set t ⟨e0.addr, e0.ver, true⟩) :
    Calls Try.prog 10 #[.pointer (some ⟨m, 0, none⟩)] w fun e w' => e = .returned (.tuple #[.int .i64 ((t : Int) + 1), .int .i64 (e0.ver : Int), .int .i64 0]) ∧ IM w0 w' m L' G := by
  obtain ⟨l, b, d, D, hI, h1, h2, h3, h4, hG⟩ := h.ex
  obtain ⟨ht, he⟩ := List.getElem?_eq_some_iff.1 h0
  refine (alloc_at m l b d L D w hI t ht ht1 (by rw [he]; exact hg) (fun i hi h1 h2 => hno i _ (List.getElem?_eq_getElem hi) h1 h2)).mono ?_
  rintro e w' ⟨rfl, k, rfl⟩
  rw [he]
  refine ⟨rfl, ?_⟩
  have := (hI.set_busy t ht true).drewN k
  rw [he] at this
  subst hL
  exact h.kp3 hI h1 h2 h3 h4 hG this (((Kp.refl _ _).set (.inl (by simp)) _).drewN k)
theorem im_alloc_none (h : IM w0 w m L G) (hno : ∀ i x, L[i]? = some x → 1 ≤ i → x.gives = false) :
    Calls Try.prog 10 #[.pointer (some ⟨m, 0, none⟩)] w fun e w' => e = .returned (.tuple #[.int .i64 0, .int .i64 0, .int .i64 23]) ∧ w = w' := by
  obtain ⟨l, b, d, D, hI, _⟩ := h.ex
  exact alloc_none m l b d L D w hI (fun i hi h1 => hno i _ (List.getElem?_eq_getElem hi) h1)
theorem im_free (h : IM w0 w m L G) (j : Nat) (e0 : Ent) (h0 : L[j]? = some e0) (hj1 : 1 ≤ j) (hb : e0.busy = true) (hv : e0.ver < 65535) (L' : List Ent) (hL : L' = L.set j ⟨0, e0.ver + 1, false⟩) :
    Calls Try.prog 11 #[.pointer (some ⟨m, 0, none⟩), .int .i64 ((j : Int) + 1)] w fun e w' => e = .returned (.int .i64 0) ∧ IM w0 w' m L' G := by
  obtain ⟨l, b, d, D, hI, h1, h2, h3, h4, hG⟩ := h.ex
  obtain ⟨ht, rfl⟩ := List.getElem?_eq_some_iff.1 h0
  refine (free_yes m l b d L D w hI j ht hj1 hb hv).mono ?_
  rintro e w' ⟨rfl, hI', hK⟩
  subst hL
  exact ⟨rfl, h.kp3 hI h1 h2 h3 h4 hG hI' hK⟩
theorem im_free_none (h : IM w0 w m L G) (j : Nat) (e0 : Ent) (h0 : L[j]? = some e0) (hj1 : 1 ≤ j) (hb : e0.busy = false) :
    Calls Try.prog 11 #[.pointer (some ⟨m, 0, none⟩), .int .i64 ((j : Int) + 1)] w fun e w' => e = .returned (.int .i64 2) ∧ w = w' := by
  obtain ⟨l, b, d, D, hI, h1, h2, h3, h4, hG⟩ := h.ex
  obtain ⟨ht, rfl⟩ := List.getElem?_eq_some_iff.1 h0
  exact free_none m l b d L D w hI j ht hj1 hb
theorem im_free_out (h : IM w0 w m L G) (i : Int) (hi : ¬ (2 ≤ i ∧ i ≤ L.length)) :
    Calls Try.prog 11 #[.pointer (some ⟨m, 0, none⟩), .int .i64 i] w fun e w' => e = .returned (.int .i64 22) ∧ w = w' := by
  obtain ⟨l, b, d, D, hI, h1, h2, h3, h4, hG⟩ := h.ex
  exact free_out m l b d L D w hI i hi
theorem im_set (h : IM w0 w m L G) (j : Nat) (e0 : Ent) (h0 : L[j]? = some e0) (hj1 : 1 ≤ j) (hb : e0.busy = true) (a : Nat) (ha : a < 4096) :
    Calls Try.prog 14 #[.pointer (some ⟨m, 0, none⟩), .int .i64 ((j : Int) + 1), .int .i64 (a : Int)] w fun e w' => e = .returned (.int .i64 0) ∧ IM w0 w' m (L.set j ⟨a, e0.ver, true⟩) G := by
  obtain ⟨l, b, d, D, hI, h1, h2, h3, h4, hG⟩ := h.ex
  obtain ⟨ht, rfl⟩ := List.getElem?_eq_some_iff.1 h0
  refine (set_yes m l b d L D w hI j ht hj1 a ha hb).mono ?_
  rintro e w' ⟨rfl, hI', hK⟩
  exact ⟨rfl, h.kp3 hI h1 h2 h3 h4 hG hI' hK⟩
theorem im_set_none (h : IM w0 w m L G) (j : Nat) (e0 : Ent) (h0 : L[j]? = some e0) (hj1 : 1 ≤ j) (hb : e0.busy = false) (a : Nat) (ha : a < 4096) :
    Calls Try.prog 14 #[.pointer (some ⟨m, 0, none⟩), .int .i64 ((j : Int) + 1), .int .i64 (a : Int)] w fun e w' => e = .returned (.int .i64 2) ∧ w = w' := by
  obtain ⟨l, b, d, D, hI, h1, h2, h3, h4, hG⟩ := h.ex
  obtain ⟨ht, rfl⟩ := List.getElem?_eq_some_iff.1 h0
  exact set_none m l b d L D w hI j ht hj1 a ha hb
theorem im_set_out (h : IM w0 w m L G) (i a : Int) (hi : ¬ (2 ≤ i ∧ i ≤ L.length)) :
    Calls Try.prog 14 #[.pointer (some ⟨m, 0, none⟩), .int .i64 i, .int .i64 a] w fun e w' => e = .returned (.int .i64 22) ∧ w = w' := by
  obtain ⟨l, b, d, D, hI, h1, h2, h3, h4, hG⟩ := h.ex
  exact set_out m l b d L D w hI i a hi
theorem im_force (h : IM w0 w m L G) (j : Nat) (hj : j < L.length) (hj1 : 1 ≤ j) (v : Nat) (hv : v ≤ 65535) :
    Calls Try.prog 13 #[.pointer (some ⟨m, 0, none⟩), .int .i64 ((j : Int) + 1), .int .i64 (v : Int), .int .i64 0] w fun e w' => e = .returned (.int .i64 0) ∧ IM w0 w' m (L.set j ⟨0, v, false⟩) G := by
  obtain ⟨l, b, d, D, hI, h1, h2, h3, h4, hG⟩ := h.ex
  refine (force_free m l b d L D w hI j hj hj1 v hv).mono ?_
  rintro e w' ⟨rfl, hI', hK⟩
  exact ⟨rfl, h.kp3 hI h1 h2 h3 h4 hG hI' hK⟩
theorem im_room (h : IM w0 w m L G) (h1 : 1 ≤ L.length) (n : Nat) (hn : (L.drop 1).countP Ent.gives = n) :
    Calls Try.prog 9 #[.pointer (some ⟨m, 0, none⟩)] w fun e w' => e = .returned (.int .i64 (n : Int)) ∧ IM w0 w' m L G := by
  obtain ⟨l, b, d, D, hI, _⟩ := h.ex
  refine (room_any m l b d L D w hI h1).mono ?_
  rintro e w' ⟨rfl, hb⟩
  rw [hn]
  exact ⟨rfl, h.kp hb⟩
theorem im_busy (h : IM w0 w m L G) (h1 : 1 ≤ L.length) :
    Calls Try.prog 12 #[.pointer (some ⟨m, 0, none⟩)] w fun e w' => ∃ A n c, e = .returned (.slice A n c) ∧ Sl w' w'.heap.size A n (intsV (pickI Ent.busy 2 (L.drop 1))) ∧ n ≤ 200 ∧ IM w0 w' m L G := by
  obtain ⟨l, b, d, D, hI, _⟩ := h.ex
  refine (busy_any m l b d L D w hI h1).mono ?_
  rintro e w' ⟨A, n, c, rfl, hS, _, hn, hb⟩
  exact ⟨A, n, c, rfl, hS, hn, h.kp hb⟩
/-- A block that is new beside the map. -/
theorem IM.add (h : IM w0 w m L G) (hb : Below w.heap.size w w') {g : Nat} {t : TypeId} {cs : Array Value} (hg : Blk w' g t cs) (hn : w.heap.size ≤ g) : IM w0 w' m L ((g, t, cs) :: G) := by
  have hs := h.bel.size
  obtain ⟨l, b, d, D, hI, h1, h2, h3, h4, hG⟩ := h.ex
  refine ⟨⟨l, b, d, D, hI.kp hb, h1, h2, h3, h4, fun x hx => ?_⟩, (h.kp hb).bel⟩
  rcases List.mem_cons.1 hx with rfl | hx
  · have e1 := hI.hm.lt
    have e2 := hI.hl.lt
    have e3 := hI.hb.lt
    have e4 := hI.hd.lt
    exact ⟨hg, by show w0.heap.size ≤ g; omega, by show g ≠ m; omega, by show g ≠ l; omega, by show g ≠ b; omega, by show g ≠ d; omega⟩
  · exact ⟨(hG x hx).1.below hb, (hG x hx).2⟩
/-- The busy ones, as a row of its own. -/
theorem im_busy2 (h : IM w0 w m L []) (h1 : 1 ≤ L.length) :
    Calls Try.prog 12 #[.pointer (some ⟨m, 0, none⟩)] w fun e w' => ∃ A n c, e = .returned (.slice A n c) ∧ n = (pickI Ent.busy 2 (L.drop 1)).length ∧ n ≤ 200 ∧
      ∃ G, IM w0 w' m L G ∧ (n = 0 ∨ ∃ g cur, A = some ⟨g, 0, none⟩ ∧ G = [(g, 3, cur)] ∧ ∀ i (hi : i < (pickI Ent.busy 2 (L.drop 1)).length), cur[i]? = some (.int .i64 ((pickI Ent.busy 2 (L.drop 1))[i] : Int))) := by
  obtain ⟨l, b, d, D, hI, _⟩ := h.ex
  refine (busy_any m l b d L D w hI h1).mono ?_
  rintro e w' ⟨A, n, c, rfl, hS, hR, hn, hb⟩
  have hl := hS.len
  rw [intsV, List.length_map] at hl
  refine ⟨A, n, c, rfl, hl.symm, hn, ?_⟩
  rcases hR with ⟨_, h0, _⟩ | ⟨g, cur, h2, h3, h4, h5, h6⟩
  · exact ⟨[], h.kp hb, .inl h0⟩
  · refine ⟨[(g, 3, cur)], h.add hb h4 h3, .inr ⟨g, cur, h2, rfl, fun i hi => ?_⟩⟩
    have : (cur.toList.take n)[i]? = some (.int .i64 ((pickI Ent.busy 2 (L.drop 1))[i] : Int)) := by rw [h5, intsV, List.getElem?_map, List.getElem?_eq_getElem hi]; rfl
    rw [List.getElem?_take, if_pos (by omega)] at this
    simpa using this
end
end Go.Proofs.Ytbmblofhogihdaa
