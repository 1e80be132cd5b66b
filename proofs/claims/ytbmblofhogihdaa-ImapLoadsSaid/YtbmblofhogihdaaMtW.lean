/- The walks of Ints, marlref11.Busy, Gives, Room, Dirty and (*imap.Map).Dirty. -/
import Derived.Test.YtbmblofhogihdaaMpW
import Derived.Test.YtbmblofhogihdaaImSomeW
import Derived.Test.YtbmblofhogihdaaTk
namespace Go.Proofs.Ytbmblofhogihdaa
open Go.RowKit
set_option maxRecDepth 100000
attribute [local go_sem ↓] Go.wp_at_zero Go.wp_at_succ

theorem sl_natM {w : World} {B n : Nat} {A : Option Addr} {l : List Nat} (h : Sl w B A n (intsV l)) {j : Nat} (hj : j < n) : ∃ (ad : Addr) (x : Nat), A = some ad ∧ l[j]? = some x ∧ w.cell? (ad.add j) = some (.int .i64 (x : Int)) := by
  obtain ⟨ad, u, hA, -, hu, hc⟩ := h.get hj
  have hl := h.len
  rw [intsV, List.length_map] at hl
  have hx : l[j]? = some (l[j]'(by omega)) := List.getElem?_eq_getElem _
  refine ⟨ad, _, hA, hx, ?_⟩
  simp only [intsV, List.getElem?_map, hx, Option.map_some, Option.some.injEq] at hu
  rw [hc, ← hu]
set_option maxHeartbeats 400000 in
theorem ints_eqM (A A' : Option Addr) (n c c' B B' : Nat) (l : List Nat) (w : World) (h : Sl w B A n (intsV l)) (h' : Sl w B' A' n (intsV l)) (hB : B ≤ w.heap.size) (hB' : B' ≤ w.heap.size) (hn : n ≤ 1000000) :
    Calls Try.prog 28 #[.slice A n c, .slice A' n c'] w fun e w' => e = .returned (.bool true) ∧ Below w.heap.size w w' := by
  have H := hide h
  have H' := hide h'
  clear h h'
  go_enter Try.func28, Try.ntmps28
  go_wp2_with fail
  go_loopw [13] (fun x wr => ∃ j : Nat, j ≤ n ∧ x = .int .i64 (j : Int) ∧ Below w.heap.size w wr) (fun x _ => n - (intOf x).toNat)
  case atStart => exact ⟨0, Nat.zero_le _, rfl, Below.refl _ _⟩
  case round =>
    obtain ⟨j, hj, rfl, hb⟩ := hrel
    have Hb := hide hb
    clear hb
    by_cases hlt : j < n
    · obtain ⟨ad, x, hA, hx, hc⟩ := sl_natM (H.out.below (Hb.out.mono hB)) hlt
      obtain ⟨ad', x', hA', hx', hc'⟩ := sl_natM (H'.out.below (Hb.out.mono hB')) hlt
      rw [hx] at hx'
      injection hx' with hx'
      subst hx' hA hA'
      clear hx
      go_wp2_with fail
      refine wp_region_noPanic ?_
      refine wp_region_held_drew (S := (fun w' => w'.cell? (ad.add j) = some (.int .i64 (x : Int)) ∧ w'.cell? (ad'.add j) = some (.int .i64 (x : Int)))) (by kernel_rfl) ?_ (fun hHeld => ?_)
      · ((try dsimp only) <;> (first | trivial | assumption | go_keep))
      refine tk 0 ?_
      refine tk 1 ?_
      refine tk 2 ?_
      refine tk 3 ?_
      refine tk 4 ?_
      refine tk 5 ?_
      refine tk 6 ?_
      refine tk 7 ?_
      refine tk 8 ?_
      refine wpAnyH_done (by kernel_rfl) ?_ _
      refine NoPanic.normal ?_
      go_wp2_with fail
      go_roundw
      case rel => exact ⟨j + 1, by omega, by go_num, Hb.out.drew⟩
      case measure => simp [intOf]; omega
    · go_wp2_with fail
      go_ret
      exact ⟨rfl, Hb.out⟩
theorem pick_snocM (f : Ent → Bool) (s : Nat) {L : List Ent} {j : Nat} {e : Ent} (h : L[j]? = some e) : pickI f s (L.take (j + 1)) = pickI f s (L.take j) ++ if f e then [s + j] else [] := by
  obtain ⟨hj, he⟩ := List.getElem?_eq_some_iff.1 h
  rw [List.take_succ_eq_append_getElem hj, pickI_snoc, he, List.length_take, Nat.min_eq_left (by omega)]
/-- A slice of these numbers. -/
def NsAns (l : List Nat) (w : World) (r : Ending) (w' : World) : Prop :=
  ∃ A n c, r = .returned (.slice A n c) ∧ Sl w' w'.heap.size A n (intsV l) ∧ n ≤ 200 ∧ Below w.heap.size w w'
set_option maxHeartbeats 1000000 in
theorem busyR_any (w : World) (g n c : Nat) (L : List Ent) (hB : Blk w g 72 (fl inC L)) (hl : L.length = n) (hn : n ≤ 200) :
    Calls Try.prog 29 #[.agg #[.slice (some ⟨g, 0, none⟩) n c]] w (NsAns (pickI Ent.busy 1 L) w) := by
  have XG := hide hB
  have HL := hide hl
  clear hB hl
  go_enter Try.func29, Try.ntmps29
  go_upto_region 1 with fail
  obtain ⟨w1, hw⟩ : ∃ W, W = w.alloc (.cells #[.slice (some ⟨g, 0, none⟩) n c] 48) := ⟨_, rfl⟩
  have X1 := hide (show Blk w1 w.heap.size 48 #[.slice (some ⟨g, 0, none⟩) n c] by rw [hw]; exact Blk.new _ _ _)
  replace XG := hide (show Blk w1 g 72 (fl inC L) by rw [hw]; exact XG.out.alloc _)
  have BW := hide (show Below w.heap.size w w1 by rw [hw]; exact (Below.refl _ _).alloc (Nat.le_refl _) _)
  rw [← hw]
  obtain ⟨g1, hg1⟩ : ∃ k, k = w.heap.size := ⟨_, rfl⟩
  rw [← hg1] at X1 ⊢
  clear hw hg1
  have y0 := X1.out.cell 0
  simp only [List.getElem?_toArray, List.getElem?_cons_zero] at y0
  go_wp2_with fail
  clear y0
  go_loopw [3, 8] (fun x y wr => ∃ (j : Nat) (A : Option Addr) (c2 : Nat) (X : List Nat), j ≤ n ∧ X.length ≤ j ∧ X = pickI Ent.busy 1 (L.take j) ∧ x = .slice A X.length c2 ∧ y = .int .i64 (j : Int) ∧ wr.ownsRow w1.heap.size 3 1 (.slice A X.length c2) X.length (intsV X) ∧ Below w1.heap.size w1 wr) (fun _ y _ => n - (intOf y).toNat)
  case atStart => exact ⟨0, none, 0, [], Nat.zero_le _, Nat.le_refl _, rfl, rfl, rfl, World.ownsRow_nil _ _ _ _, Below.refl _ _⟩
  case round =>
    obtain ⟨j, A, c2, X, hj, hXl, hX, rfl, rfl, ho, hb⟩ := hrel
    have O := hide ho
    have BR := hide hb
    have HX := hide hX
    clear ho hb hX
    by_cases hlt : j < n
    rotate_left
    · have hjs : ¬ (j : Int) < (n : Int) := by omega
      obtain rfl : j = n := by omega
      go_wp2_with fail
      go_ret
      have hx := HX.out
      rw [List.take_of_length_le (by rw [HL.out]; exact Nat.le_refl _)] at hx
      exact ⟨A, _, c2, rfl, by rw [← hx]; exact Sl.of_own O.out, by omega, BW.out.trans (BR.out.mono BW.out.size)⟩
    have hjs : (j : Int) < (n : Int) := by omega
    obtain ⟨e, he⟩ : ∃ e, L[j]? = some e := ⟨_, List.getElem?_eq_getElem (by rw [HL.out]; exact hlt)⟩
    have HS := hide (pick_snocM Ent.busy 1 he)
    obtain ⟨-, -, q2, -⟩ := in_cells ((XG.out.below BR.out)) he
    have y0 := (X1.out.below BR.out).cell 0
    simp only [List.getElem?_toArray, List.getElem?_cons_zero] at y0
    obtain ⟨b, hb⟩ : ∃ b, b = e.busy := ⟨_, rfl⟩
    rw [← hb] at q2 HS
    clear he hb
    rw [← HX.out] at HS
    cases b with
    | true =>
      have hXl2 : X.length ≤ 200 := by omega
      go_wp2_with (
        at_builtin
        refine wpList_app _ rfl (.tmp 17) (.tmp 20) _ rfl etyI w1.heap.size _ _ (intsV X) rfl (O.out.alloc _) (wr.heap.size + 1) (some ⟨wr.heap.size, 0, none⟩) 1 1 (intsV [j + 1]) rfl
          ?_ (intsV_one _) (by omega) (by simp; exact Nat.le_succ_of_le BR.out.size) ?_
        · exact one_int _ _
        intro A' c' w2 hown2 hg2 _
        have O2 := hide hown2
        have B2 := hide ((BR.out.alloc BR.out.size _).grown hg2 (by simp; exact Nat.le_succ_of_le BR.out.size) (fun k hk => (O.out.lt k hk).1))
        clear hown2 hg2)
      go_roundw
      case rel =>
        have o := O2.out
        rw [show intsV X ++ intsV [j + 1] = intsV (X ++ [j + 1]) by simp [intsV]] at o
        refine ⟨j + 1, A', c', X ++ [j + 1], by omega, by simp; omega, ?_, by simp, by go_num, ?_, B2.out⟩
        · rw [HS.out, if_pos rfl, Nat.add_comm 1 j]
        · simpa using o
      case measure => simp [intOf]; omega
    | false =>
      go_wp2_with fail
      go_roundw
      case rel => exact ⟨j + 1, A, c2, X, by omega, by omega, by rw [HS.out]; simp, rfl, by go_num, O.out, BR.out⟩
      case measure => simp [intOf]; omega
set_option maxHeartbeats 1000000 in
theorem givesR_any (w : World) (g n c : Nat) (L : List Ent) (hB : Blk w g 72 (fl inC L)) (hl : L.length = n) (hn : n ≤ 200) (p x : Nat) (e : Ent) (he : L[p]? = some e) (hp : 1 ≤ p) (hx : x = p + 1) :
    Calls Try.prog 37 #[.agg #[.slice (some ⟨g, 0, none⟩) n c], .int .i64 (x : Int)] w fun r w' => r = .returned (.bool e.gives) ∧ Below w.heap.size w w' := by
  have XG := hide hB
  have hpn : p < n := by rw [← hl]; exact (List.getElem?_eq_some_iff.1 he).1
  have HE := hide he
  clear hB hl he
  go_enter Try.func37, Try.ntmps37
  go_upto_region 1 with fail
  obtain ⟨w1, hw⟩ : ∃ W, W = w.alloc (.cells #[.slice (some ⟨g, 0, none⟩) n c] 48) := ⟨_, rfl⟩
  have X1 := hide (show Blk w1 w.heap.size 48 #[.slice (some ⟨g, 0, none⟩) n c] by rw [hw]; exact Blk.new _ _ _)
  replace XG := hide (show Blk w1 g 72 (fl inC L) by rw [hw]; exact XG.out.alloc _)
  have BW := hide (show Below w.heap.size w w1 by rw [hw]; exact (Below.refl _ _).alloc (Nat.le_refl _) _)
  rw [← hw]
  obtain ⟨g1, hg1⟩ : ∃ k, k = w.heap.size := ⟨_, rfl⟩
  rw [← hg1] at X1 ⊢
  clear hw hg1
  have y0 := X1.out.cell 0
  simp only [List.getElem?_toArray, List.getElem?_cons_zero] at y0
  obtain ⟨q0, -, q2, -⟩ := in_cells XG.out HE.out
  have h2 : (2 : Int) ≤ (x : Int) := by omega
  have h3 : (x : Int) ≤ (n : Int) := by omega
  have h4 : IntKind.i64.wrap ((x : Int) - 1) = (p : Int) := by rw [IntKind.wrap_i64]; omega
  have h5 : (p : Int) < (n : Int) := by omega
  obtain ⟨b, hb⟩ : ∃ b, b = e.busy := ⟨_, rfl⟩
  obtain ⟨v, hv⟩ : ∃ v, v = e.ver := ⟨_, rfl⟩
  rw [← hv] at q0
  rw [← hb] at q2
  clear hx
  cases b with
  | true =>
    have HG := hide (gives_busy hb.symm)
    clear hb hv
    go_wp2_with fail
    go_ret
    exact ⟨by rw [HG.out]; rfl, BW.out⟩
  | false =>
    have HG := hide (show e.gives = decide ((v : Int) < 65535) by
      unfold Ent.gives
      rw [← hb, hv, Bool.eq_iff_iff]
      simp
      omega)
    clear hb hv
    go_wp2_with fail
    go_ret
    exact ⟨by rw [HG.out]; rfl, BW.out⟩
set_option maxHeartbeats 1000000 in
theorem roomR_any (w : World) (g n c : Nat) (L : List Ent) (hB : Blk w g 72 (fl inC L)) (hl : L.length = n) (hn : n ≤ 200) (h1 : 1 ≤ n) :
    Calls Try.prog 30 #[.agg #[.slice (some ⟨g, 0, none⟩) n c]] w fun r w' => r = .returned (.int .i64 (((L.drop 1).countP Ent.gives : Nat) : Int)) ∧ Below w.heap.size w w' := by
  obtain ⟨N, hN⟩ : ∃ N, N = (L.drop 1).countP Ent.gives := ⟨_, rfl⟩
  rw [← hN]
  have HN := hide hN
  have XG := hide hB
  have HL := hide hl
  clear hB hl hN
  go_enter Try.func30, Try.ntmps30
  go_upto_region 1 with fail
  obtain ⟨w1, hw⟩ : ∃ W, W = w.alloc (.cells #[.slice (some ⟨g, 0, none⟩) n c] 48) := ⟨_, rfl⟩
  have X1 := hide (show Blk w1 w.heap.size 48 #[.slice (some ⟨g, 0, none⟩) n c] by rw [hw]; exact Blk.new _ _ _)
  replace XG := hide (show Blk w1 g 72 (fl inC L) by rw [hw]; exact XG.out.alloc _)
  have BW := hide (show Below w.heap.size w w1 by rw [hw]; exact (Below.refl _ _).alloc (Nat.le_refl _) _)
  rw [← hw]
  obtain ⟨g1, hg1⟩ : ∃ k, k = w.heap.size := ⟨_, rfl⟩
  rw [← hg1] at X1 ⊢
  clear hw hg1
  go_wp2_with fail
  go_loopw [3, 4] (fun x y wr => ∃ j k X : Nat, 1 ≤ j ∧ j ≤ n ∧ k = j + 1 ∧ X ≤ j ∧ X = ((L.drop 1).take (j - 1)).countP Ent.gives ∧ x = .int .i64 (X : Int) ∧ y = .int .i64 (k : Int) ∧ Below w1.heap.size w1 wr) (fun _ y _ => n + 1 - (intOf y).toNat)
  case atStart => exact ⟨1, 2, 0, Nat.le_refl _, h1, rfl, Nat.zero_le _, rfl, rfl, rfl, Below.refl _ _⟩
  case round =>
    obtain ⟨j, k, X, hj1, hj, hk, hXl, hX, rfl, rfl, hb⟩ := hrel
    have BR := hide hb
    have HX := hide hX
    clear hb hX
    have y0 := (X1.out.below BR.out).cell 0
    simp only [List.getElem?_toArray, List.getElem?_cons_zero] at y0
    by_cases hlt : j < n
    rotate_left
    · have hjs : ¬ (k : Int) ≤ (n : Int) := by omega
      have HXE := hide (show X = N by
        rw [HN.out]
        have hx := HX.out
        rw [List.take_of_length_le (by rw [List.length_drop, HL.out]; omega)] at hx
        exact hx)
      clear hk
      go_wp2_with fail
      go_ret
      exact ⟨by rw [HXE.out]; rfl, BW.out.trans (BR.out.mono BW.out.size)⟩
    have hjs : (k : Int) ≤ (n : Int) := by omega
    have hjl : j < L.length := by rw [HL.out]; exact hlt
    obtain ⟨e, he⟩ : ∃ e, L[j]? = some e := ⟨_, List.getElem?_eq_getElem hjl⟩
    have HS := hide (show ((L.drop 1).take (j + 1 - 1)).countP Ent.gives = X + if e.gives then 1 else 0 by
      rw [show j + 1 - 1 = j by omega, drop_take_snoc L j hjl hj1, List.countP_append, ← HX.out, (List.getElem?_eq_some_iff.1 he).2]
      simp [List.countP_cons])
    have GV := hide (givesR_any wr g n c L (XG.out.below BR.out) HL.out hn j k e he hj1 hk)
    obtain ⟨b, hb⟩ : ∃ b, b = e.gives := ⟨_, rfl⟩
    rw [← hb] at GV HS
    have HK := hide hk
    clear hb he hjl hk
    go_wp2_with fail
    refine GV.out.mono ?_
    rintro r w3 ⟨rfl, hb3⟩
    replace BR := hide (BR.out.trans (hb3.mono BR.out.size))
    clear hb3 GV y0
    have hX200 : X ≤ 200 := by omega
    have hk200 : k ≤ 201 := by have := HK.out; omega
    cases b with
    | true =>
      go_wp2_with fail
      go_roundw
      case rel => exact ⟨j + 1, k + 1, X + 1, by omega, by omega, by rw [HK.out], by omega, by rw [HS.out]; simp, by go_num, by go_num, BR.out⟩
      case measure => simp [intOf]; have := HK.out; omega
    | false =>
      go_wp2_with fail
      go_roundw
      case rel => exact ⟨j + 1, k + 1, X, by omega, by omega, by rw [HK.out], by omega, by rw [HS.out]; simp, rfl, by go_num, BR.out⟩
      case measure => simp [intOf]; have := HK.out; omega
theorem sl_nilM (w : World) : Sl w w.heap.size none 0 (intsV []) := Sl.nil_
set_option maxHeartbeats 1000000 in
theorem dirty_none (m l b d q : Nat) (L : List Ent) (w : World) (h : ImpA w m l b d L (List.replicate q false)) (hq : q ≤ 200) :
    Calls Try.prog 31 #[.pointer (some ⟨m, 0, none⟩)] w (NsAns [] w) := by
  obtain ⟨-, -, c2⟩ := imp_cells h
  rw [List.length_replicate] at c2
  have HD := hide h.hd
  clear h
  go_enter Try.func31, Try.ntmps31
  go_wp2_with fail
  go_loopw [3, 11] (fun x y wr => ∃ j : Nat, j ≤ q ∧ x = .slice none 0 0 ∧ y = .int .i64 (j : Int) ∧ Below w.heap.size w wr) (fun _ y _ => q - (intOf y).toNat)
  case atStart => exact ⟨0, Nat.zero_le _, rfl, rfl, Below.refl _ _⟩
  case round =>
    obtain ⟨j, hj, rfl, rfl, hb⟩ := hrel
    have BR := hide hb
    clear hb
    by_cases hlt : j < q
    rotate_left
    · have hjs : ¬ (j : Int) < (q : Int) := by omega
      go_wp2_with fail
      go_ret
      exact ⟨none, 0, 0, rfl, sl_nilM _, Nat.zero_le _, BR.out⟩
    have hjs : (j : Int) < (q : Int) := by omega
    have hc : wr.cell? ⟨d, j, none⟩ = some (.bool false) := by
      rw [(HD.out.below BR.out).cell, bools_get, List.getElem?_replicate, if_pos hlt]
      rfl
    go_wp2_with fail
    go_roundw
    case rel => exact ⟨j + 1, hlt, rfl, by go_num, BR.out⟩
    case measure => simp [intOf]; omega
set_option maxHeartbeats 1000000 in
theorem dirtyR_any (w : World) (g n c : Nat) (L : List Ent) (hB : Blk w g 72 (fl inC L)) (hl : L.length = n) (hn : n ≤ 200) :
    Calls Try.prog 32 #[.agg #[.slice (some ⟨g, 0, none⟩) n c]] w (NsAns [] w) := by
  have XG := hide hB
  have HL := hide hl
  clear hB hl
  go_enter Try.func32, Try.ntmps32
  go_upto_region 1 with fail
  obtain ⟨w1, hw⟩ : ∃ W, W = w.alloc (.cells #[.slice (some ⟨g, 0, none⟩) n c] 48) := ⟨_, rfl⟩
  have X1 := hide (show Blk w1 w.heap.size 48 #[.slice (some ⟨g, 0, none⟩) n c] by rw [hw]; exact Blk.new _ _ _)
  replace XG := hide (show Blk w1 g 72 (fl inC L) by rw [hw]; exact XG.out.alloc _)
  have BW := hide (show Below w.heap.size w w1 by rw [hw]; exact (Below.refl _ _).alloc (Nat.le_refl _) _)
  rw [← hw]
  obtain ⟨g1, hg1⟩ : ∃ k, k = w.heap.size := ⟨_, rfl⟩
  rw [← hg1] at X1 ⊢
  clear hw hg1
  go_wp2_with fail
  go_loopw [3, 4] (fun x y wr => ∃ s : Nat, s ≤ n + 7 ∧ x = .slice none 0 0 ∧ y = .int .i64 (s : Int) ∧ Below w1.heap.size w1 wr) (fun _ y _ => n + 7 - (intOf y).toNat)
  case atStart => exact ⟨0, Nat.zero_le _, rfl, rfl, Below.refl _ _⟩
  case round =>
    obtain ⟨s, hs, rfl, rfl, hb⟩ := hrel
    have BR := hide hb
    clear hb
    have y0 := (X1.out.below BR.out).cell 0
    simp only [List.getElem?_toArray, List.getElem?_cons_zero] at y0
    by_cases hlt : s < n
    rotate_left
    · have hjs : ¬ (s : Int) < (n : Int) := by omega
      go_wp2_with fail
      go_ret
      exact ⟨none, 0, 0, rfl, sl_nilM _, Nat.zero_le _, BW.out.trans (BR.out.mono BW.out.size)⟩
    have hjs : (s : Int) < (n : Int) := by omega
    go_upto_region 6 with fail
    go_wp2_with fail
    go_loopw [5, 6] (fun x y wr => ∃ k : Nat, k ≤ 8 ∧ x = .bool false ∧ y = .int .i64 (k : Int) ∧ Below w1.heap.size w1 wr) (fun _ y _ => 8 - (intOf y).toNat)
    case atStart => exact ⟨0, Nat.zero_le _, rfl, rfl, BR.out⟩
    case round =>
      obtain ⟨k, hk, rfl, rfl, hb⟩ := hrel
      clear BR y0
      have BR := hide hb
      clear hb
      have y0 := (X1.out.below BR.out).cell 0
      simp only [List.getElem?_toArray, List.getElem?_cons_zero] at y0
      by_cases hin : k < 8 ∧ s + k < n
      · obtain ⟨hk8, hsk⟩ := hin
        have i1 : (k : Int) < 8 := by omega
        have i2 : (s : Int) + (k : Int) < (n : Int) := by omega
        obtain ⟨e, he⟩ : ∃ e, L[s + k]? = some e := ⟨_, List.getElem?_eq_getElem (by rw [HL.out]; exact hsk)⟩
        obtain ⟨-, -, -, q3⟩ := in_cells ((XG.out.below BR.out)) he
        clear he
        obtain ⟨p, hp⟩ : ∃ p, p = s + k := ⟨_, rfl⟩
        have hwp : IntKind.i64.wrap ((s : Int) + (k : Int)) = (p : Int) := by rw [IntKind.wrap_i64]; omega
        have hpn : (p : Int) < (n : Int) := by omega
        rw [← hp] at q3
        clear hp hsk i2
        go_wp2_with fail
        go_roundw
        case rel => exact ⟨k + 1, hk8, rfl, by go_num, BR.out⟩
        case measure => simp [intOf]; omega
      have hout : (¬ (k : Int) < 8) ∨ ((k : Int) < 8 ∧ ¬ (s : Int) + (k : Int) < (n : Int)) := by omega
      clear hin
      rcases hout with i1 | ⟨i1, i2⟩
      · go_wp2_with fail
        go_roundw
        case rel => exact ⟨s + 8, by omega, rfl, by go_num, BR.out⟩
        case measure => simp [intOf]; omega
      · go_wp2_with fail
        go_roundw
        case rel => exact ⟨s + 8, by omega, rfl, by go_num, BR.out⟩
        case measure => simp [intOf]; omega
end Go.Proofs.Ytbmblofhogihdaa
