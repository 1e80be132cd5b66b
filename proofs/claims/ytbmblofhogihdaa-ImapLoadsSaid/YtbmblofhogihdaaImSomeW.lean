/- The walks over package imap: some, Room, Busy. -/
import Derived.Test.YtbmblofhogihdaaImW
import Derived.Test.YtbmblofhogihdaaRd
namespace Go.Proofs.Ytbmblofhogihdaa
open Go.RowKit

/-- The numbers of those for which something holds, from a number on. -/
def pickI (f : Ent → Bool) : Nat → List Ent → List Nat
  | _, [] => []
  | s, e :: es => if f e then s :: pickI f (s + 1) es else pickI f (s + 1) es
theorem pickI_snoc (f : Ent → Bool) (s : Nat) (l : List Ent) (e : Ent) : pickI f s (l ++ [e]) = pickI f s l ++ if f e then [s + l.length] else [] := by
  induction l generalizing s with
  | nil => simp [pickI]
  | cons x l ih =>
    simp only [List.cons_append, pickI, ih, List.length_cons]
    rw [show s + 1 + l.length = s + (l.length + 1) by omega]
    split <;> simp
theorem pickI_len (f : Ent → Bool) (s : Nat) (l : List Ent) : (pickI f s l).length ≤ l.length := by
  induction l generalizing s with
  | nil => simp [pickI]
  | cons x l ih => simp only [pickI]; have := ih (s + 1); split <;> simp <;> omega
theorem pickI_countP (f : Ent → Bool) (s : Nat) (l : List Ent) : (pickI f s l).length = l.countP f := by
  induction l generalizing s with
  | nil => simp [pickI]
  | cons x l ih => simp only [pickI]; split <;> simp_all
theorem drop_take_snoc (L : List Ent) (j : Nat) (hj : j < L.length) (hj1 : 1 ≤ j) : (L.drop 1).take j = (L.drop 1).take (j - 1) ++ [L[j]] := by
  have hl : j - 1 < (L.drop 1).length := by rw [List.length_drop]; omega
  have := List.take_succ_eq_append_getElem hl
  rw [show j - 1 + 1 = j by omega] at this
  rw [this]
  congr 2
  rw [List.getElem_drop]
  congr 1
  omega
def intsV (l : List Nat) : List Value := l.map fun (n : Nat) => .int .i64 (n : Int)
theorem intsV_one (l : List Nat) : ∀ u ∈ intsV l, u.oneCell' = true := by
  intro u hu
  obtain ⟨b, _, rfl⟩ := List.mem_map.1 hu
  rfl
theorem etyI : Ety Try.prog 22 3 (.int .i64 0) 8 := Ety.mk' Try.underlying22 (by kernel_rfl) rfl (by omega)
/-- A slice that was made: nil and empty, or at the head of a block of its own. -/
def NewRow (w : World) (base : Nat) (t : TypeId) (A : Option Addr) (n : Nat) (xs : List Value) : Prop :=
  (A = none ∧ n = 0 ∧ xs = []) ∨ ∃ g cur, A = some ⟨g, 0, none⟩ ∧ base ≤ g ∧ Blk w g t cur ∧ cur.toList.take n = xs ∧ n ≤ cur.size
theorem newRow_of_own {w : World} {base n c : Nat} {e : TypeId} {A : Option Addr} {xs : List Value} (h : w.ownsRow base e 1 (.slice A n c) n xs) : NewRow w base e A n xs := by
  have h1 := h.1
  rcases h.2 with ⟨h0, rfl⟩ | ⟨g, cap, cur, h2, h3, h4, h5, h6, h7, h8⟩
  · injection h0 with e1 e2 e3
    exact .inl ⟨e1, rfl, List.eq_nil_of_length_eq_zero (by omega)⟩
  · injection h2 with e1 e2 e3
    exact .inr ⟨g, cur, e1, h3, h4, by rw [Nat.mul_one] at h8; exact h8, by omega⟩
theorem one_int (w : World) (n : Nat) : Sl (w.alloc (.cells #[.int .i64 (n : Int)] 3)) (w.heap.size + 1) (some ⟨w.heap.size, 0, none⟩) 1 (intsV [n]) := by
  refine ⟨rfl, fun i u hu => ⟨_, rfl, by simp, ?_⟩⟩
  rcases i with _ | i
  · have e : u = .int .i64 (n : Int) := by injection hu with h; exact h.symm
    subst e
    simp [Addr.add]
  · exact absurd hu (by simp [intsV])
theorem clip_any (A : Option Addr) (n c : Nat) (w : World) (hn : n ≤ c) :
    Calls Try.prog 34 #[.slice A n c] w fun e w' => e = .returned (.slice A n n) ∧ w = w' := by
  have e1 := run_cut_hm (P := Try.prog) etyI A n c w n n .i64 .i64 (Nat.le_refl _) hn
  go_enter Try.func34, Try.ntmps34
  go_wp2
  go_ret
  exact ⟨rfl, rfl⟩

theorem busy1_any (g m l b d : Nat) (L : List Ent) (D : List Bool) (w : World) (h : ImpA w m l b d L D) (hg : w.cell? ⟨g, 0, none⟩ = some (.pointer (some ⟨m, 0, none⟩))) (j : Nat) (hj : j < L.length) :
    Calls Try.prog 22 #[.int .i64 ((j : Int) + 1), .pointer (some ⟨g, 0, none⟩)] w fun e w' => e = .returned (.bool L[j].busy) ∧ w = w' := by
  have hn := h.n
  obtain ⟨c0, c1, c2⟩ := imp_cells h
  have cb : w.cell? ⟨b, j, none⟩ = some (.bool L[j].busy) := by rw [h.hb.cell, bsy_get L j hj]
  clear h
  go_enter Try.func22, Try.ntmps22
  go_wp2
  go_ret
  exact ⟨rfl, rfl⟩

set_option maxHeartbeats 1000000 in
theorem some_gives (m l b d : Nat) (L : List Ent) (D : List Bool) (w : World) (h : ImpA w m l b d L D) (h1 : 1 ≤ L.length) :
    Calls Try.prog 18 #[.pointer (some ⟨m, 0, none⟩), .func (.func 19) #[.pointer (some ⟨m, 0, none⟩)] #[]] w fun e w' => ∃ A n c, e = .returned (.slice A n c) ∧ Sl w' w'.heap.size A n (intsV (pickI Ent.gives 2 (L.drop 1))) ∧ NewRow w' w.heap.size 3 A n (intsV (pickI Ent.gives 2 (L.drop 1))) ∧ n ≤ 200 ∧ Below w.heap.size w w' := by
  have H := hide h
  have hn := h.n
  obtain ⟨c0, c1, c2⟩ := imp_cells h
  have hlm := h.hm.lt
  clear h
  go_enter Try.func18, Try.ntmps18
  go_wp2_with fail
  go_loopw [5, 6] (fun v i wr => ∃ j : Nat, 1 ≤ j ∧ j ≤ L.length ∧ i = .int .i64 ((j : Int) + 1) ∧ Below w.heap.size w wr ∧ wr.ownsRow w.heap.size 3 1 v (pickI Ent.gives 2 ((L.drop 1).take (j - 1))).length (intsV (pickI Ent.gives 2 ((L.drop 1).take (j - 1))))) (fun _ i _ => L.length + 1 - (intOf i).toNat)
  case atStart => exact ⟨1, by omega, h1, rfl, Below.refl _ _, rfl, .inl ⟨rfl, rfl⟩⟩
  case round =>
    obtain ⟨j, hj1, hj2, rfl, hb, hown⟩ := hrel
    have HI := hide (H.out.kp hb)
    have hc0 : wr.cell? ⟨m, 0, none⟩ = some (.slice (some ⟨l, 0, none⟩) L.length L.length) := by rw [hb.cell hlm]; exact c0
    have hsz : w.heap.size ≤ wr.heap.size := hb.size
    have Hb := hide hb
    have Hown := hide hown
    have hpl : (pickI Ent.gives 2 ((L.drop 1).take (j - 1))).length ≤ 200 := by
      have h1 := pickI_len Ent.gives 2 ((L.drop 1).take (j - 1))
      have h2 : ((L.drop 1).take (j - 1)).length ≤ j - 1 := List.length_take_le _ _
      omega
    clear hb hown
    obtain ⟨A, c, rfl, hnc, hcm⟩ := own_form Hown.out
    have HE := hide (show ¬ j < L.length → pickI Ent.gives 2 ((L.drop 1).take (j - 1)) = pickI Ent.gives 2 (L.drop 1) from fun hjl => by
      rw [show (L.drop 1).take (j - 1) = L.drop 1 from List.take_of_length_le (by rw [List.length_drop]; omega)])
    have HS := hide (show ∀ hjl : j < L.length, pickI Ent.gives 2 ((L.drop 1).take (j + 1 - 1)) = pickI Ent.gives 2 ((L.drop 1).take (j - 1)) ++ (if Ent.gives L[j] then [j + 1] else []) from fun hjl => by
      rw [show j + 1 - 1 = j by omega, drop_take_snoc L j hjl hj1, pickI_snoc]
      rw [List.length_take, List.length_drop, Nat.min_eq_left (by omega), show 2 + (j - 1) = j + 1 by omega])
    generalize pickI Ent.gives 2 ((L.drop 1).take (j - 1)) = X at *
    by_cases hjl : j < L.length
    · have Hs := hide (HS.out hjl)
      by_cases hg : Ent.gives L[j] = true
      · have HG := hide hg
        have C := hide (gives_any m l b d L D wr HI.out j hjl)
        rw [hg] at C
        clear hg
        go_wp2_with fail
        refine C.out.mono ?_
        rintro e w' ⟨rfl, rfl⟩
        go_wp2_with (
          at_builtin
          refine wpList_app _ rfl (.tmp 19) (.tmp 21) _ rfl etyI w.heap.size _ _ (intsV (X)) rfl (Hown.out.alloc _) (wr.heap.size + 1) (some ⟨wr.heap.size, 0, none⟩) 1 1 (intsV [j + 1]) rfl
            ?_ (intsV_one _) (by omega) (by simp; omega) ?_
          · exact one_int _ _
          intro A' c' w2 hown2 hg2 _
          have Hown2 := hide hown2
          have Hb2 := hide ((Hb.out.alloc hsz _).grown hg2 (by simp; omega) (fun k hk => (Hown.out.lt k hk).1))
          clear hown2 hg2)
        go_roundw
        case rel =>
          refine ⟨j + 1, by omega, by omega, by go_num, Hb2.out, ?_⟩
          rw [Hs.out, if_pos HG.out, List.length_append]
          have := Hown2.out
          rw [show intsV (X) ++ intsV [j + 1] = intsV (X ++ [j + 1]) by simp [intsV]] at this
          exact this
        case measure => simp [intOf]; omega
      · have HG := hide hg
        have C := hide (gives_any m l b d L D wr HI.out j hjl)
        simp only [Bool.not_eq_true] at hg
        rw [hg] at C
        clear hg
        go_wp2_with fail
        refine C.out.mono ?_
        rintro e w' ⟨rfl, rfl⟩
        go_wp2_with fail
        go_roundw
        case rel =>
          refine ⟨j + 1, by omega, by omega, by go_num, Hb.out, ?_⟩
          rw [Hs.out, if_neg HG.out, List.append_nil]
          exact Hown.out
        case measure => simp [intOf]; omega
    · have he := HE.out hjl
      clear HE HS
      have HE := hide he
      clear he
      go_wp2_with fail
      refine (clip_any A _ c _ hnc).mono ?_
      rintro e w' ⟨rfl, rfl⟩
      go_wp2_with fail
      go_ret
      exact ⟨A, _, _, rfl, by rw [← HE.out]; exact Sl.of_own Hown.out, by rw [← HE.out]; exact newRow_of_own Hown.out, hpl, Hb.out⟩

set_option maxHeartbeats 1000000 in
theorem some_busy (g m l b d : Nat) (L : List Ent) (D : List Bool) (w : World) (h : ImpA w m l b d L D) (hg : w.cell? ⟨g, 0, none⟩ = some (.pointer (some ⟨m, 0, none⟩))) (h1 : 1 ≤ L.length) :
    Calls Try.prog 18 #[.pointer (some ⟨m, 0, none⟩), .func (.func 22) #[] #[.pointer (some ⟨g, 0, none⟩)]] w fun e w' => ∃ A n c, e = .returned (.slice A n c) ∧ Sl w' w'.heap.size A n (intsV (pickI Ent.busy 2 (L.drop 1))) ∧ NewRow w' w.heap.size 3 A n (intsV (pickI Ent.busy 2 (L.drop 1))) ∧ n ≤ 200 ∧ Below w.heap.size w w' := by
  have H := hide h
  have hn := h.n
  have HGC := hide hg
  have hgl := cell_lt hg
  clear hg
  obtain ⟨c0, c1, c2⟩ := imp_cells h
  have hlm := h.hm.lt
  clear h
  go_enter Try.func18, Try.ntmps18
  go_wp2_with fail
  go_loopw [5, 6] (fun v i wr => ∃ j : Nat, 1 ≤ j ∧ j ≤ L.length ∧ i = .int .i64 ((j : Int) + 1) ∧ Below w.heap.size w wr ∧ wr.ownsRow w.heap.size 3 1 v (pickI Ent.busy 2 ((L.drop 1).take (j - 1))).length (intsV (pickI Ent.busy 2 ((L.drop 1).take (j - 1))))) (fun _ i _ => L.length + 1 - (intOf i).toNat)
  case atStart => exact ⟨1, by omega, h1, rfl, Below.refl _ _, rfl, .inl ⟨rfl, rfl⟩⟩
  case round =>
    obtain ⟨j, hj1, hj2, rfl, hb, hown⟩ := hrel
    have HI := hide (H.out.kp hb)
    have hgc : wr.cell? ⟨g, 0, none⟩ = some (.pointer (some ⟨m, 0, none⟩)) := by rw [hb.cell hgl]; exact HGC.out
    have HGC2 := hide hgc
    clear hgc
    have hc0 : wr.cell? ⟨m, 0, none⟩ = some (.slice (some ⟨l, 0, none⟩) L.length L.length) := by rw [hb.cell hlm]; exact c0
    have hsz : w.heap.size ≤ wr.heap.size := hb.size
    have Hb := hide hb
    have Hown := hide hown
    have hpl : (pickI Ent.busy 2 ((L.drop 1).take (j - 1))).length ≤ 200 := by
      have h1 := pickI_len Ent.busy 2 ((L.drop 1).take (j - 1))
      have h2 : ((L.drop 1).take (j - 1)).length ≤ j - 1 := List.length_take_le _ _
      omega
    clear hb hown
    obtain ⟨A, c, rfl, hnc, hcm⟩ := own_form Hown.out
    have HE := hide (show ¬ j < L.length → pickI Ent.busy 2 ((L.drop 1).take (j - 1)) = pickI Ent.busy 2 (L.drop 1) from fun hjl => by
      rw [show (L.drop 1).take (j - 1) = L.drop 1 from List.take_of_length_le (by rw [List.length_drop]; omega)])
    have HS := hide (show ∀ hjl : j < L.length, pickI Ent.busy 2 ((L.drop 1).take (j + 1 - 1)) = pickI Ent.busy 2 ((L.drop 1).take (j - 1)) ++ (if Ent.busy L[j] then [j + 1] else []) from fun hjl => by
      rw [show j + 1 - 1 = j by omega, drop_take_snoc L j hjl hj1, pickI_snoc]
      rw [List.length_take, List.length_drop, Nat.min_eq_left (by omega), show 2 + (j - 1) = j + 1 by omega])
    generalize pickI Ent.busy 2 ((L.drop 1).take (j - 1)) = X at *
    by_cases hjl : j < L.length
    · have Hs := hide (HS.out hjl)
      by_cases hg : Ent.busy L[j] = true
      · have HG := hide hg
        have C := hide (busy1_any g m l b d L D wr HI.out HGC2.out j hjl)
        rw [hg] at C
        clear hg
        go_wp2_with fail
        refine C.out.mono ?_
        rintro e w' ⟨rfl, rfl⟩
        go_wp2_with (
          at_builtin
          refine wpList_app _ rfl (.tmp 19) (.tmp 21) _ rfl etyI w.heap.size _ _ (intsV (X)) rfl (Hown.out.alloc _) (wr.heap.size + 1) (some ⟨wr.heap.size, 0, none⟩) 1 1 (intsV [j + 1]) rfl
            ?_ (intsV_one _) (by omega) (by simp; omega) ?_
          · exact one_int _ _
          intro A' c' w2 hown2 hg2 _
          have Hown2 := hide hown2
          have Hb2 := hide ((Hb.out.alloc hsz _).grown hg2 (by simp; omega) (fun k hk => (Hown.out.lt k hk).1))
          clear hown2 hg2)
        go_roundw
        case rel =>
          refine ⟨j + 1, by omega, by omega, by go_num, Hb2.out, ?_⟩
          rw [Hs.out, if_pos HG.out, List.length_append]
          have := Hown2.out
          rw [show intsV (X) ++ intsV [j + 1] = intsV (X ++ [j + 1]) by simp [intsV]] at this
          exact this
        case measure => simp [intOf]; omega
      · have HG := hide hg
        have C := hide (busy1_any g m l b d L D wr HI.out HGC2.out j hjl)
        simp only [Bool.not_eq_true] at hg
        rw [hg] at C
        clear hg
        go_wp2_with fail
        refine C.out.mono ?_
        rintro e w' ⟨rfl, rfl⟩
        go_wp2_with fail
        go_roundw
        case rel =>
          refine ⟨j + 1, by omega, by omega, by go_num, Hb.out, ?_⟩
          rw [Hs.out, if_neg HG.out, List.append_nil]
          exact Hown.out
        case measure => simp [intOf]; omega
    · have he := HE.out hjl
      clear HE HS
      have HE := hide he
      clear he
      go_wp2_with fail
      refine (clip_any A _ c _ hnc).mono ?_
      rintro e w' ⟨rfl, rfl⟩
      go_wp2_with fail
      go_ret
      exact ⟨A, _, _, rfl, by rw [← HE.out]; exact Sl.of_own Hown.out, by rw [← HE.out]; exact newRow_of_own Hown.out, hpl, Hb.out⟩

set_option maxHeartbeats 400000 in
theorem room_any (m l b d : Nat) (L : List Ent) (D : List Bool) (w : World) (h : ImpA w m l b d L D) (h1 : 1 ≤ L.length) :
    Calls Try.prog 9 #[.pointer (some ⟨m, 0, none⟩)] w fun e w' => e = .returned (.int .i64 ((L.drop 1).countP Ent.gives : Nat)) ∧ Below w.heap.size w w' := by
  have hmf : ∀ (fn : Fn) (first cap : Array Value) (w : World), (Instr.makeFunc fn first cap).run Try.prog w = .ok (.func fn first cap) w := fun _ _ _ _ => rfl
  have H := hide h
  clear h
  go_enter Try.func9, Try.ntmps9
  go_wp2_with fail
  refine (some_gives m l b d L D _ H.out h1).mono ?_
  rintro e w1 ⟨A, n, c, rfl, hS, hR, hn, hb⟩
  have hl := hS.len
  rw [intsV, List.length_map, pickI_countP] at hl
  have HL := hide hl
  have HB := hide hb
  clear hS hl hb hmf
  go_wp2_with fail
  go_ret
  exact ⟨by rw [HL.out]; rfl, HB.out⟩

set_option maxHeartbeats 400000 in
theorem busy_any (m l b d : Nat) (L : List Ent) (D : List Bool) (w : World) (h : ImpA w m l b d L D) (h1 : 1 ≤ L.length) :
    Calls Try.prog 12 #[.pointer (some ⟨m, 0, none⟩)] w fun e w' => ∃ A n c, e = .returned (.slice A n c) ∧ Sl w' w'.heap.size A n (intsV (pickI Ent.busy 2 (L.drop 1))) ∧ NewRow w' w.heap.size 3 A n (intsV (pickI Ent.busy 2 (L.drop 1))) ∧ n ≤ 200 ∧ Below w.heap.size w w' := by
  have hmf : ∀ (fn : Fn) (first cap : Array Value) (w : World), (Instr.makeFunc fn first cap).run Try.prog w = .ok (.func fn first cap) w := fun _ _ _ _ => rfl
  have H := hide h
  clear h
  go_enter Try.func12, Try.ntmps12
  go_wp2_with fail
  refine (some_busy w.heap.size m l b d L D _ (H.out.alloc _) (by simp) h1).mono ?_
  rintro e w1 ⟨A, n, c, rfl, hS, hR, hn, hb⟩
  have HS := hide hS
  have HB := hide hb
  have HR := hide (show NewRow w1 w.heap.size 3 A n (intsV (pickI Ent.busy 2 (L.drop 1))) from by
    rcases hR with h | ⟨g, cur, h1, h2, h3⟩
    · exact .inl h
    · exact .inr ⟨g, cur, h1, by simp at h2; omega, h3⟩)
  clear hS hb hmf hR
  go_wp2_with fail
  go_ret
  refine ⟨A, n, c, rfl, HS.out, HR.out, hn, ((Below.refl _ _).alloc (Nat.le_refl _) _).trans (HB.out.mono (by simp))⟩
end Go.Proofs.Ytbmblofhogihdaa
