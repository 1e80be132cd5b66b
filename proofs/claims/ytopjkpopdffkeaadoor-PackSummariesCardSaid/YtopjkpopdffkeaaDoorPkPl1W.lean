/- The walk over what Plan puts a number with. -/
import Derived.Test.YtopjkpopdffkeaaDoorPkBegW
import Derived.Test.YtopjkpopdffkeaaDoorCOI
import Derived.Test.YtopjkpopdffkeaaDoorLast
set_option linter.unusedVariables false
set_option linter.unusedSimpArgs false
namespace Go.Proofs.YtopjkpopdffkeaaDoor
open Go.RowKit
attribute [local go_sem ↓] Go.wp_at_zero Go.wp_at_succ

theorem _root_.Go.World.ownsRow.keep_far {w : World} {base n k : Nat} {e : TypeId} {v : Value} {xs : List Value} (h : w.ownsRow base e k v n xs) {p : Addr} (hp : ∀ g, v.ownBlock = some g → g ≠ p.block) (u : Value) : (w.setCell p u).ownsRow base e k v n xs := by
  refine ⟨h.1, ?_⟩
  rcases h.2 with h0 | ⟨g, cap, cur, rfl, h2, h3, h4⟩
  · exact .inl h0
  · exact .inr ⟨g, cap, cur, rfl, h2, (Below.heap_setCell w p u g (hp g rfl)).trans h3, h4⟩
/-- Two results, the first one in a cell. -/
theorem results_cell_slot {P : Program} {fn : Func} {p q : Tmp} {ty : TypeId} (h : fn.results = #[.cell p ty, .tmp q]) (tmps : Array Value) (w : World) (g : Nat) (t : TypeId) (cs : Array Value) (fr : Nat × Nat) (d : TypeDesc) (v : Value)
    (hp : tmps.getD p undef = .pointer (some ⟨g, 0, none⟩)) (hq : tmps.getD q undef = v) (hg : w.heap[g]? = some (.cells cs t fr))
    (hu : P.underlying ty = some d) (hd : (match d with | .struct _ | .array _ _ => true | _ => false) = true) (hi : (P.info? ty).map (·.size) = some cs.size) :
    (results fn tmps).run P w = .ok (.tuple #[.agg cs, v]) w := by
  have hp' : tmps[p]?.getD undef = .pointer (some ⟨g, 0, none⟩) := by simpa using hp
  have hq' : tmps[q]?.getD undef = v := by simpa using hq
  simp [results, h, hp', hq', asAddr, run_loadVar_row w g t ty cs fr d hg hu hd hi]
theorem own_lenI2 {w : World} {base n : Nat} {v : Value} {xs : List Value} (h : w.ownsRow base 3 1 v n xs) : xs.length = n := by have := h.1; omega
set_option maxRecDepth 100000 in
set_option maxHeartbeats 1000000 in
theorem pl1_any (base X : Nat) (x : Int) (p : PcP) (A1 A2 : Option Addr) (c1 c2 : Nat) (w : World) (hX : w.cell? ⟨X, 0, none⟩ = some (.int .i64 x)) (hf : FisAt base base w A1 p.fs.length p.fs) (hi : IntsAt base base w A2 p.is.length p.is)
    (hn2 : p.is.length ≤ 100000) (hB : base ≤ w.heap.size) :
    Calls Tryd.prog 15 #[.agg (pcC p.nw A1 p.fs.length c1 A2 p.is.length c2), .pointer (some ⟨X, 0, none⟩)] w fun e w' => ∃ A c, e = .returned (.tuple #[.agg (pcC p.nw A1 p.fs.length c1 A (p.is ++ [x]).length c), .bool true]) ∧
      IntsAt base base w' A (p.is ++ [x]).length (p.is ++ [x]) ∧ Below w.heap.size w w' := by
  obtain ⟨n1, hn1⟩ : ∃ x, x = p.fs.length := ⟨_, rfl⟩
  obtain ⟨n2, hn2'⟩ : ∃ x, x = p.is.length := ⟨_, rfl⟩
  have hm : (p.is ++ [x]).length = n2 + 1 := by rw [List.length_append, hn2']; rfl
  rw [← hn1] at hf
  rw [← hn2'] at hi hn2
  rw [hm, ← hn1, ← hn2']
  have HF := hide hf
  have HI := hide hi
  have HB := hide hB
  have HX := hide hX
  have HN := hide hn2'
  have HXL := hide (cell_lt hX)
  clear hf hi hB hn1 hn2' hm
  unfold pcC
  go_enter Tryd.func15, Tryd.ntmps15
  go_wp2_with fail
  have HBW : Below w.heap.size w ((w.alloc (.cells #[.bool p.nw, .slice A1 n1 c1, .slice A2 n2 c2] 37)).alloc (.cells #[.bool false, .slice none 0 0, .slice none 0 0] 37)) := ((Below.refl _ _).alloc (Nat.le_refl _) _).alloc (by simp) _
  have KP : Blk ((w.alloc (.cells #[.bool p.nw, .slice A1 n1 c1, .slice A2 n2 c2] 37)).alloc (.cells #[.bool false, .slice none 0 0, .slice none 0 0] 37)) w.heap.size 37 #[.bool p.nw, .slice A1 n1 c1, .slice A2 n2 c2] := (Blk.new _ _ _).alloc _
  have KR : Blk ((w.alloc (.cells #[.bool p.nw, .slice A1 n1 c1, .slice A2 n2 c2] 37)).alloc (.cells #[.bool false, .slice none 0 0, .slice none 0 0] 37)) (w.heap.size + 1) 37 #[.bool false, .slice none 0 0, .slice none 0 0] := by
    have := Blk.new (w.alloc (.cells #[.bool p.nw, .slice A1 n1 c1, .slice A2 n2 c2] 37)) 37 #[.bool false, .slice none 0 0, .slice none 0 0]
    rwa [World.size_alloc] at this
  have SZ : ((w.alloc (.cells #[.bool p.nw, .slice A1 n1 c1, .slice A2 n2 c2] 37)).alloc (.cells #[.bool false, .slice none 0 0, .slice none 0 0] 37)).heap.size = w.heap.size + 2 := by simp
  generalize (w.alloc (.cells #[.bool p.nw, .slice A1 n1 c1, .slice A2 n2 c2] 37)).alloc (.cells #[.bool false, .slice none 0 0, .slice none 0 0] 37) = w1 at *
  have hX1 := (HBW.cell (p := ⟨X, 0, none⟩) HXL.out).trans HX.out
  have SI := hide ((RwAt.below HI.out HBW).sl)
  have CC := hide (fun (w' : World) (hb : Below w1.heap.size w1 w') => show w'.cell? ⟨w.heap.size, 2, none⟩ = some (.slice A2 n2 c2) ∧ w'.cell? ⟨X, 0, none⟩ = some (.int .i64 x) from ⟨(KP.below hb).cell 2, (hb.cell (p := ⟨X, 0, none⟩) (Nat.lt_of_lt_of_le HXL.out HBW.size)).trans hX1⟩)
  have KP := hide KP
  have KR := hide KR
  have SZ := hide SZ
  have HBW := hide HBW
  clear hX1 hX
  have s0 := CC.out _ (Below.refl _ _).drew
  refine wp_region_noPanic ?_
  refine wp_region_last (n := 8) (S := (fun w' => w'.cell? ⟨w.heap.size, 2, none⟩ = some (.slice A2 n2 c2) ∧ w'.cell? ⟨X, 0, none⟩ = some (.int .i64 x))) (by kernel_rfl) (by rfl) (by kernel_rfl) ?_ (fun hHeld => ?_)
  · ((try dsimp only) <;> (first | trivial | assumption | go_keep))
  clear s0
  have BD := hide ((Below.refl w1.heap.size w1).drew)
  have SI2 := hide (SI.out.below BD.out)
  have ws : Hid (w1.heap.size ≤ w1.drew.heap.size) := hide (Nat.le_refl _)
  generalize w1.drew = w2 at *
  refine wpAnyH_take (i := 1) (v := ?_) (by simp only [List.getElem?_toArray, List.getElem?_cons_succ, List.getElem?_cons_zero]; rfl) (by kernel_rfl) (by kernel_rfl) (by kernel_rfl) (fun _ _ _ h => h) (Or.inl ⟨by rfl, ?_⟩) (by assumption) ?_
  rotate_left 1
  · (intro w hSw; (try dsimp only at hSw); go_simp; try with_reducible rfl)
  try simp only [Act.put, List.setIfInBounds_toArray, List.set_cons_zero, List.set_cons_succ]
  refine wpAnyH_take (i := 2) (v := ?_) (by simp only [List.getElem?_toArray, List.getElem?_cons_succ, List.getElem?_cons_zero]; rfl) (by kernel_rfl) (by kernel_rfl) (by kernel_rfl) (fun _ _ _ h => h) (Or.inl ⟨by rfl, ?_⟩) (by assumption) ?_
  rotate_left 1
  · (intro w hSw; (try dsimp only at hSw); go_simp; try with_reducible rfl)
  try simp only [Act.put, List.setIfInBounds_toArray, List.set_cons_zero, List.set_cons_succ]
  refine wpAnyH_take (i := 4) (v := ?_) (by simp only [List.getElem?_toArray, List.getElem?_cons_succ, List.getElem?_cons_zero]; rfl) (by kernel_rfl) (by kernel_rfl) (by kernel_rfl) (fun _ _ _ h => h) (Or.inl ⟨by rfl, ?_⟩) (by assumption) ?_
  rotate_left 1
  · (intro w hSw; (try dsimp only at hSw); go_simp; try with_reducible rfl)
  try simp only [Act.put, List.setIfInBounds_toArray, List.set_cons_zero, List.set_cons_succ]
  refine region_rows (fuel := 1) (w0 := w2) (base := w2.heap.size) (stop := 7) (C := [⟨0, 5, [], [], RowF 3 w2.heap.size []⟩, ⟨3, 8, [0], [0], RowF 3 w2.heap.size (intC p.is)⟩, ⟨5, 10, [], [], BufF 3 w2.heap.size [.int .i64 x]⟩, ⟨6, 11, [3], [3, 5], RowF 3 w2.heap.size (intC p.is ++ [.int .i64 x])⟩])
    (ok_of_cd (by kernel_rfl)) ?hok ?hst ?hS (Below.refl _ _) (Nat.le_refl _) ?hend
  case hok =>
    intro y hy
    simp only [List.mem_cons, List.not_mem_nil, or_false] at hy
    rcases hy with rfl | rfl | rfl | rfl
    · exact rowF_ok _ _ _ _ _ _ _
    · exact rowF_ok _ _ _ _ _ _ _
    · exact bufF_ok _ _ _ _ _ _ _
    · exact rowF_ok _ _ _ _ _ _ _
  case hS =>
    intro w' hb _
    exact CC.out w' (BD.out.trans (hb.mono ws.out))
  case hst =>
    have hl : p.is.length ≤ 100000 := by rw [← HN.out]; exact hn2
    intro y hy
    simp only [List.mem_cons, List.not_mem_nil, or_false] at hy
    rcases hy with rfl | rfl | rfl | rfl
    · exact step_empty (by simp only [List.getElem?_toArray, List.getElem?_cons_succ, List.getElem?_cons_zero]; rfl) (by rfl) (by rfl) (by rfl) rfl
    · exact step_src (by simp only [List.getElem?_toArray, List.getElem?_cons_succ, List.getElem?_cons_zero]; rfl) (by rfl) (by rfl) 5 7 (by rfl) ⟨0, 5, [], [], RowF 3 w2.heap.size []⟩ (by simp) rfl (by simp) (by simp) [] rfl (by intro z hz; simp only [List.mem_cons, List.not_mem_nil, or_false] at hz; rcases hz with rfl | rfl | rfl | rfl <;> simp) w1.heap.size A2 n2 c2 p.is (by rfl) SI2.out ws.out (by simp; omega) rfl
    · exact step_buf1 (by simp only [List.getElem?_toArray, List.getElem?_cons_succ, List.getElem?_cons_zero]; rfl) (by rfl) (by rfl) 9 (by rfl) (by intro z hz; simp only [List.mem_cons, List.not_mem_nil, or_false] at hz; rcases hz with rfl | rfl | rfl | rfl <;> simp) x (by rfl) rfl
    · exact step_add (by simp only [List.getElem?_toArray, List.getElem?_cons_succ, List.getElem?_cons_zero]; rfl) (by rfl) (by rfl) 8 10 (by rfl) ⟨3, 8, [0], [0], RowF 3 w2.heap.size (intC p.is)⟩ (by simp) rfl (by simp) (by simp) (intC p.is) rfl ⟨5, 10, [], [], BufF 3 w2.heap.size [.int .i64 x]⟩ (by simp) rfl (by simp) x rfl (by rw [intC_len]; omega) rfl
  case hend =>
    intro vals w3 hb3 hs3 hF hap
    have f6 := hF ⟨6, 11, [3], [3, 5], RowF 3 w2.heap.size (intC p.is ++ [.int .i64 x])⟩ (by simp) (by simp)
    clear hF hap
    simp only at f6
    obtain ⟨A, n, c, hv, ho⟩ := f6
    have hn := own_lenI2 ho
    subst hn
    simp only [List.foldl_cons, List.foldl_nil, hv]
    generalize vals 0 = x0
    generalize vals 3 = x3
    generalize vals 5 = x5
    clear hv
    simp only [Act.put, List.setIfInBounds_toArray, List.set_cons_zero, List.set_cons_succ]
    have hN : (intC p.is ++ [Value.int .i64 x]).length = n2 + 1 := by rw [List.length_append, intC_len, ← HN.out]; rfl
    rw [hN] at ho ⊢
    have HO := hide ho
    have B3 := hide (BD.out.trans (hb3.mono ws.out))
    have KP3 := hide (KP.out.below B3.out)
    have KR3 := hide (KR.out.below B3.out)
    have c3 := KP3.out.cell 2
    have f3 := KP3.out.frozen 2
    clear hb3 ho hN
    have hH3 := CC.out _ B3.out
    clear hHeld
    have hHeld := hH3
    clear hH3
    refine wpAnyH_take (i := 7) (v := ?_) (by simp only [List.getElem?_toArray, List.getElem?_cons_succ, List.getElem?_cons_zero]; rfl) (by kernel_rfl) (by kernel_rfl) (by kernel_rfl) (fun _ _ _ h => h) (Or.inl ⟨by rfl, ?_⟩) (by assumption) ?_
    rotate_left 1
    · (intro w hSw; (try dsimp only at hSw); go_simp; try with_reducible rfl)
    try simp only [Act.put, List.setIfInBounds_toArray, List.set_cons_zero, List.set_cons_succ]
    refine wpAnyH_done (by kernel_rfl) ?_ _
    refine LastQ.step (by simp only [List.getElem?_toArray, List.getElem?_cons_succ, List.getElem?_cons_zero]; rfl) (by rfl) ?_
    go_simp
    refine NoPanic.normal ?_
    have KP4 := KP3.out.set 2 (.slice A (n2 + 1) c)
    have KR4 := hide (KR3.out.far (p := ⟨w.heap.size, 2, none⟩) (Nat.succ_ne_self _) (.slice A (n2 + 1) c))
    simp only [List.setIfInBounds_toArray, List.set_cons_zero, List.set_cons_succ] at KP4
    have x0' := KP4.cell 0
    have x1' := KP4.cell 1
    have x2' := KP4.cell 2
    have y0 := KR4.out.cell 0
    have y1 := KR4.out.cell 1
    have y2 := KR4.out.cell 2
    have yf0 := KR4.out.frozen 0
    have yf1 := KR4.out.frozen 1
    have yf2 := KR4.out.frozen 2
    simp only [List.getElem?_toArray, List.getElem?_cons_succ, List.getElem?_cons_zero] at x0' x1' x2' y0 y1 y2
    have HK4 := hide KP4
    have HOW := hide (HO.out.keep_far (p := ⟨w.heap.size, 2, none⟩) (fun g hg => by have := (HO.out.lt g hg).1; have := SZ.out; have := ws.out; show g ≠ w.heap.size; omega) (.slice A (n2 + 1) c))
    have BF := hide ((HBW.out.trans (B3.out.mono HBW.out.size)).setCell (p := ⟨w.heap.size, 2, none⟩) (Nat.le_refl _) (.slice A (n2 + 1) c))
    obtain ⟨w4, hw4⟩ : ∃ w4, w4 = w3.setCell ⟨w.heap.size, 2, none⟩ (.slice A (n2 + 1) c) := ⟨_, rfl⟩
    rw [← hw4] at x0' x1' x2' y0 y1 y2 yf0 yf1 yf2 HK4 KR4 HOW BF ⊢
    clear hw4 c3 f3 hHeld KP4
    go_wp2_with fail
    have KF := ((KR4.out.set 0 (.bool p.nw)).set 1 (.slice A1 n1 c1)).set 2 (.slice A (n2 + 1) c)
    simp only [List.setIfInBounds_toArray, List.set_cons_zero, List.set_cons_succ] at KF
    refine bodyPost_ret (results_cell_slot (g := w.heap.size + 1) (cs := #[.bool p.nw, .slice A1 n1 c1, .slice A (n2 + 1) c]) (t := 37) (fr := (0, 0)) rfl _ _ (v := .bool true) (hp := rfl) (hq := rfl) (hg := KF) (hu := Tryd.underlying37) (hd := rfl) (hi := by kernel_rfl)) rfl ?_
    have hsz : w.heap.size + 2 ≤ w2.heap.size := by rw [← SZ.out]; exact ws.out
    have hfar : ∀ {W : World} (i : Nat) (u : Value), W.ownsRow w2.heap.size 3 1 (Value.slice A (n2 + 1) c) (n2 + 1) (intC p.is ++ [Value.int IntKind.i64 x]) → (W.setCell ⟨w.heap.size + 1, i, none⟩ u).ownsRow w2.heap.size 3 1 (Value.slice A (n2 + 1) c) (n2 + 1) (intC p.is ++ [Value.int IntKind.i64 x]) := fun i u h => h.keep_far (fun g hg => by have := (h.lt g hg).1; show g ≠ w.heap.size + 1; omega) u
    have hOF := hfar 2 (.slice A (n2 + 1) c) (hfar 1 (.slice A1 n1 c1) (hfar 0 (.bool p.nw) HOW.out))
    rw [intC_app] at hOF
    have hsp : ∀ i, w.heap.size ≤ (Addr.mk (w.heap.size + 1) i none).block := fun i => Nat.le_succ _
    exact ⟨A, c, rfl, (RwAt.of_own (base := base) hOF).lo_ (Nat.le_trans HB.out (by omega)), ((BF.out.setCell (hsp 0) _).setCell (hsp 1) _).setCell (hsp 2) _⟩
end Go.Proofs.YtopjkpopdffkeaaDoor
