import Derived.Test.YtlobkefacnedeaaDoorJd01
import Derived.Lib.ConvBytes
set_option linter.unusedVariables false
set_option linter.unusedSimpArgs false
/- The walk of marlref15.Read (printed by gen_sgrr.py). -/
namespace Go.Proofs.YtlobkefacnedeaaDoor
open Go.RowKit
set_option maxRecDepth 100000
attribute [local go_sem ↓] Go.wp_at_zero Go.wp_at_succ

def RrAns (D : Dsk) (a : Int) (base : Nat) (r : Ending) (w' : World) : Prop :=
  ∃ B1 d1 B2 d2 A3 c3, r = .returned (.tuple #[.agg (fdC (if (rdS D a).1 = 0 then a else 0) (rdS D a).2.1 B1 d1 B2 d2 A3 (rdS D a).2.2.length c3), .int .i64 (rdS D a).1]) ∧ FisAt base base w' B1 (rdS D a).2.1.fs.length (rdS D a).2.1.fs ∧ IntsAt base base w' B2 (rdS D a).2.1.is.length (rdS D a).2.1.is ∧ OwnS w' base A3 (rdS D a).2.2.length c3 (rdS D a).2.2
theorem RrAns.bad {D : Dsk} {a k : Int} {base : Nat} {w' : World} (h : rdS D a = (k, pv0, [])) (hk : k ≠ 0) : RrAns D a base (.returned (.tuple #[.agg zeroC, .int .i64 k])) w' := by
  refine ⟨none, 0, none, 0, none, 0, ?_, ?_⟩
  · rw [h, if_neg hk]; rfl
  · rw [h]; exact ⟨FisAt.nil, RwAt.nil, World.ownsRow_nil _ _ _ _⟩
theorem bwR_below (w : World) (t : TypeId) (s : ByteArray) : Below w.heap.size w (Lib.bytesWorld w t s) := by
  have h1 : Below w.heap.size w (w.drew.alloc (.cells (Lib.bytesCells w t s) t)) := ((Below.refl _ _).drew).alloc (by simp) _
  refine ⟨h1.os, h1.tape, h1.output, by rw [Lib.bytesWorld_size]; omega, fun k hk => Lib.bytesWorld_at_old w t s k hk⟩
theorem bwR_byT (w : World) (l : List UInt8) {n : Nat} (hn : l.length = n) : ByT 0 (Lib.bytesWorld w 5 (txt l)).heap.size (Lib.bytesWorld w 5 (txt l)) (some ⟨w.heap.size, 0, none⟩) n l :=
  ⟨by simp [u8s, hn], fun j u hu => ⟨w.heap.size, 0, rfl, ⟨Nat.zero_le _, by rw [Lib.bytesWorld_size]; omega, .inl (by rw [Lib.bytesWorld_size]; omega)⟩, by
    have hj : j < l.length := by
      have := (List.getElem?_eq_some_iff.1 hu).1
      simpa [u8s] using this
    rw [Nat.zero_add, Lib.bytesWorld_cell w 5 (txt l) j (by simpa [txt, ByteArray.size] using hj), ← hu]
    simp [u8s, txt, List.getElem?_eq_getElem hj]⟩⟩
theorem op4S {w : World} {k : Nat} {t : TypeId} {x0 x1 x2 x3 : Value} (h : Blk w k t #[x0, x1, x2, x3]) : w.cell? ⟨k, 0, none⟩ = some x0 ∧ w.cell? ⟨k, 1, none⟩ = some x1 ∧ w.cell? ⟨k, 2, none⟩ = some x2 ∧ w.cell? ⟨k, 3, none⟩ = some x3 := ⟨h.cell 0, h.cell 1, h.cell 2, h.cell 3⟩
theorem set7r {w : World} {g : Nat} {t : TypeId} {y0 y1 y2 y3 y4 y5 y6 : Value} (h : Blk w g t #[y0, y1, y2, y3, y4, y5, y6]) (x0 x1 x2 x3 x4 x5 x6 : Value) :
    ∃ W, (((((((w.setCell ⟨g, 0, none⟩ x0).setCell ⟨g, 1, none⟩ x1).setCell ⟨g, 2, none⟩ x2).setCell ⟨g, 3, none⟩ x3).setCell ⟨g, 4, none⟩ x4).setCell ⟨g, 5, none⟩ x5).setCell ⟨g, 6, none⟩ x6) = W ∧ Blk W g t #[x0, x1, x2, x3, x4, x5, x6] ∧ Kp [g] w W := by
  have h0 := h.set 0 x0
  have h1 := h0.set 1 x1
  have h2 := h1.set 2 x2
  have h3 := h2.set 3 x3
  have h4 := h3.set 4 x4
  have h5 := h4.set 5 x5
  have h6 := h5.set 6 x6
  have hm : ∀ i, (⟨g, i, none⟩ : Addr).block ∈ [g] ∨ w.heap.size ≤ (⟨g, i, none⟩ : Addr).block := fun i => .inl (List.mem_singleton.2 rfl)
  exact ⟨_, rfl, by simpa using h6, (((((((Kp.refl [g] w).set (hm 0) x0).set (hm 1) x1).set (hm 2) x2).set (hm 3) x3).set (hm 4) x4).set (hm 5) x5).set (hm 6) x6⟩
theorem ret_rr {K : Ending → World → Prop} {tmps : Array Value} {w : World} {g : Nat} {cs : Array Value} {v : Value} (hp : tmps.getD 4 undef = .pointer (some ⟨g, 0, none⟩)) (hq : tmps.getD 5 undef = v) (hB : Blk w g 45 cs) (hs : cs.size = 9)
    (hK : K (.returned (.tuple #[.agg cs, v])) w) : bodyPost Tryd.prog Tryd.f20 K .ret ⟨tmps, []⟩ w :=
  bodyPost_ret (results_cell_slotG (g := g) (cs := cs) (t := 45) (fr := (0, 0)) rfl _ _ (v := v) (hp := hp) (hq := hq) (hg := hB) (hu := Tryd.underlying45) (hd := rfl) (hi := by rw [hs]; kernel_rfl)) rfl hK
theorem RwAt.dnR {lo base lo' base' k n : Nat} {t : TypeId} {w : World} {A : Option Addr} {xs : List Value} (h : RwAt lo base t k w A n xs) (hb : base ≤ lo) (hl : lo' ≤ lo) : RwAt lo' base' t k w A n xs :=
  ⟨h.len, fun j u hu => by
    obtain ⟨b, off, e, ⟨h1, h2, h3⟩, hc⟩ := h.cells j u hu
    exact ⟨b, off, e, ⟨Nat.le_trans hl h1, h2, .inr (h3.resolve_left (by omega))⟩, hc⟩⟩
theorem FisAt.dnR {lo base lo' base' n : Nat} {w : World} {A : Option Addr} {fs : List FI} (h : FisAt lo base w A n fs) (hb : base ≤ lo) (hl : lo' ≤ lo) : FisAt lo' base' w A n fs := by
  obtain ⟨cs, h1, h2, h3, h4⟩ := h
  refine ⟨cs, h1, h2, h3.dnR hb hl, fun j x f hx hf => ?_⟩
  obtain ⟨A, c, e, h5⟩ := h4 j x f hx hf
  exact ⟨A, c, e, RwAt.dnR h5 hb hl⟩
/-- What the reference's Decode told. -/
def DecR (l : List UInt8) (base : Nat) (w' : World) (v : PV) (s : Nat) (code : Int) (B1 : Option Addr) (d1 : Nat) (B2 : Option Addr) (d2 : Nat) : Prop :=
  (IsEnc l v s ∧ code = 0 ∧ FisAt base base w' B1 v.fs.length v.fs ∧ IntsAt base base w' B2 v.is.length v.is) ∨ ((∀ v s, ¬ IsEnc l v s) ∧ code = 100)
theorem DecR.below {l : List UInt8} {base s d1 d2 : Nat} {w w' : World} {v : PV} {code : Int} {B1 B2 : Option Addr} (h : DecR l base w v s code B1 d1 B2 d2) (hb : Below w.heap.size w w') : DecR l base w' v s code B1 d1 B2 d2 :=
  h.imp (fun ⟨h1, h2, h3, h4⟩ => ⟨h1, h2, h3.below hb, RwAt.below h4 hb⟩) id
theorem DecR.kt {l : List UInt8} {base s d1 d2 : Nat} {w w' : World} {v : PV} {code : Int} {B1 B2 : Option Addr} (h : DecR l base w v s code B1 d1 B2 d2) (hk : Kt [25] base w w') : DecR l base w' v s code B1 d1 B2 d2 :=
  h.imp (fun ⟨h1, h2, h3, h4⟩ => ⟨h1, h2, h3.kt hk (by decide) (by decide), RwAt.kt h4 hk (by decide)⟩) id
theorem txt_app15 (a b : List UInt8) : txt a ++ txt b = txt (a ++ b) := by
  apply ByteArray.ext
  simp [txt]
theorem DecAns.r {l : List UInt8} {base base' : Nat} {r : Ending} {w' : World} (h : DecAns l base r w') (hb : base' ≤ base) :
    ∃ (v : PV) (s : Nat) (code : Int) (B1 : Option Addr) (d1 : Nat) (B2 : Option Addr) (d2 : Nat), r = .returned (.tuple #[.agg #[.int .i64 v.e, .int .i64 v.c, .int .i64 v.i, .int .i64 v.p, .int .i64 v.x, .slice B1 v.fs.length d1, .slice B2 v.is.length d2], .int .u32 (s : Int), .int .i64 code]) ∧ DecR l base' w' v s code B1 d1 B2 d2 := by
  rcases h with ⟨v, sm, hE, B1, d1, B2, d2, cs, rfl, hO, hI⟩ | ⟨hn, rfl⟩
  · exact ⟨v, sm, 0, B1, d1, B2, d2, rfl, .inl ⟨hE, rfl, (hO.bq hb).fis, (RwAt.of_own (own_bq hI hb)).lo_ (Nat.le_refl _)⟩⟩
  · exact ⟨pv0, 0, 100, none, 0, none, 0, rfl, .inr ⟨hn, rfl⟩⟩
set_option maxHeartbeats 16000000 in
theorem rread15 (w : World) (base : Nat) (As : Option Addr) (cs : Nat) (Aq : Option Addr) (cq : Nat) (D : Dsk) (h : RefM w base As cs Aq cq D) (a : Int) (ha64 : I64 a) :
    Calls Tryd.prog 20 #[.agg (refV As cs Aq cq D), .int .i64 a] w fun r w' => RrAns D a w.heap.size r w' ∧ Below w.heap.size w w' := by
  have H := hide h
  obtain ⟨N, hN⟩ : ∃ N, N = D.sure.length := ⟨_, rfl⟩
  obtain ⟨M, hM⟩ : ∃ M, M = D.queue.length := ⟨_, rfl⟩
  have HN := hide (show N = D.sure.length ∧ N ≤ 4096 from ⟨hN, by have := h.ok.n; omega⟩)
  have hN4 : N ≤ 4096 := HN.out.2
  have RC := hide (show ∀ W, Below w.heap.size w W → ∀ i : Nat, i < N → Calls Tryd.prog 25 #[.agg #[.slice As N cs, .slice Aq M cq, .int .i64 (D.steps : Int), .int .i64 D.left], .int .i64 (i : Int)] W fun e w' => e = .returned (.string (txt (D.read i))) ∧ Below W.heap.size W w' from fun W hW i hi => by
    have := rread_any W base As cs Aq cq D (h.below hW) i (by omega)
    unfold refV at this
    rw [← hN, ← hM] at this
    exact this)
  have h64 : IntKind.i64.wrap ((N : Int) - 2) = (N : Int) - 2 := by rw [IntKind.wrap_i64]; omega
  unfold refV
  rw [← hN, ← hM]
  clear hN hM h
  go_enter Tryd.func20, Tryd.ntmps20
  go_upto_region 1 with fail
  obtain ⟨w1, hw⟩ : ∃ W, W = (w.alloc (.cells #[.slice As N cs, .slice Aq M cq, .int .i64 (D.steps : Int), .int .i64 D.left] 51)).alloc (.cells zeroC 45) := ⟨_, rfl⟩
  have X2 : Hid (Blk w1 w.heap.size 51 #[.slice As N cs, .slice Aq M cq, .int .i64 (D.steps : Int), .int .i64 D.left]) := hide (by rw [hw]; exact (Blk.new _ _ _).alloc _)
  have X4 : Hid (Blk w1 (w.heap.size + 1) 45 zeroC) := hide (by rw [hw]; have := Blk.new (w.alloc (.cells #[.slice As N cs, .slice Aq M cq, .int .i64 (D.steps : Int), .int .i64 D.left] 51)) 45 zeroC; simpa using this)
  have BW : Hid (Below w.heap.size w w1) := hide (by rw [hw]; exact ((Below.refl _ _).alloc (Nat.le_refl _) _).alloc (by simp) _)
  have hw' := hw
  unfold zeroC fdC pv0 at hw'
  simp only [List.length_nil] at hw'
  rw [← hw']
  obtain ⟨g2, hg2⟩ : ∃ g, g = w.heap.size := ⟨_, rfl⟩
  rw [← hg2] at X2 X4 ⊢
  obtain ⟨g4, hg4⟩ : ∃ g, g = g2 + 1 := ⟨_, rfl⟩
  rw [← hg4] at X4 ⊢
  have G4 := hide (show w.heap.size ≤ g4 ∧ w.heap.size ≤ g2 ∧ g2 ≠ g4 by omega)
  clear hw hw' hg2 hg4
  by_cases h0 : a < 0
  ·
    have HP := hide (rdS_out (D := D) (a := a) (.inl h0))
    obtain ⟨y0, y1, y2, y3, y4, y5, y6, y7, y8⟩ := op9z X4.out
    have z := X4.out.frozen
    go_wp2_with fail
    clear y0 y1 y2 y3 y4 y5 y6 y7 y8 z
    obtain ⟨S1, S2⟩ := set9 X4.out (.int .i64 0) (.int .i64 0) (.int .i64 0) (.int .i64 0) (.int .i64 0) (.int .i64 0) (.slice none 0 0) (.slice none 0 0) (.slice none 0 0)
    refine ret_rr (g := g4) rfl rfl S1 rfl ⟨RrAns.bad HP.out (by decide), ?_⟩
    exact Below.kp2 BW.out S2 BW.out.size (by simp [G4.out])
  have c20 := X2.out.cell 0
  simp only [List.getElem?_toArray, List.getElem?_cons_succ, List.getElem?_cons_zero] at c20
  by_cases h1 : (N : Int) - 2 < a
  ·
    have HP := hide (rdS_out (D := D) (a := a) (.inr (by rw [← HN.out.1]; exact h1)))
    obtain ⟨y0, y1, y2, y3, y4, y5, y6, y7, y8⟩ := op9z X4.out
    have z := X4.out.frozen
    go_wp2_with fail
    clear y0 y1 y2 y3 y4 y5 y6 y7 y8 z
    obtain ⟨S1, S2⟩ := set9 X4.out (.int .i64 0) (.int .i64 0) (.int .i64 0) (.int .i64 0) (.int .i64 0) (.int .i64 0) (.slice none 0 0) (.slice none 0 0) (.slice none 0 0)
    refine ret_rr (g := g4) rfl rfl S1 rfl ⟨RrAns.bad HP.out (by decide), ?_⟩
    exact Below.kp2 BW.out S2 BW.out.size (by simp [G4.out])
  obtain ⟨k, rfl⟩ : ∃ k : Nat, a = (k : Int) := ⟨a.toNat, by omega⟩
  have hkN : k + 2 ≤ N := by omega
  clear h0
  go_upto_region 3 with fail
  clear h64 c20 h1
  have LA := hide (read_lenG H.out.ok (i := k) (by have := HN.out.1; omega))
  have LB := hide (read_lenG H.out.ok (i := k + 1) (by have := HN.out.1; omega))
  obtain ⟨la, hla⟩ : ∃ l, l = D.read k := ⟨_, rfl⟩
  obtain ⟨lb, hlb⟩ : ∃ l, l = D.read (k + 1) := ⟨_, rfl⟩
  have HL := hide (And.intro hla hlb)
  rw [← hla] at LA
  rw [← hlb] at LB
  have R1 := hide (show ∀ W, Below w1.heap.size w1 W → Calls Tryd.prog 25 #[.agg #[.slice As N cs, .slice Aq M cq, .int .i64 (D.steps : Int), .int .i64 D.left], .int .i64 (k : Int)] W fun e w' => e = .returned (.string (txt la)) ∧ Below W.heap.size W w' from fun W hW => by
    rw [hla]
    exact RC.out W (BW.out.trans (hW.mono BW.out.size)) k (by omega))
  have R2 := hide (show ∀ W, Below w1.heap.size w1 W → Calls Tryd.prog 25 #[.agg #[.slice As N cs, .slice Aq M cq, .int .i64 (D.steps : Int), .int .i64 D.left], .int .i64 ((k + 1 : Nat) : Int)] W fun e w' => e = .returned (.string (txt lb)) ∧ Below W.heap.size W w' from fun W hW => by
    rw [hlb]
    exact RC.out W (BW.out.trans (hW.mono BW.out.size)) (k + 1) (by omega))
  have hk1 : IntKind.i64.wrap ((k : Int) + 1) = ((k + 1 : Nat) : Int) := by rw [IntKind.wrap_i64]; omega
  clear hla hlb
  go_cut [6, 7, 8] (fun y6 y7 y8 wx => ∃ (g6 s : Nat) (v : PV) (code : Int) (B1 : Option Addr) (d1 : Nat) (B2 : Option Addr) (d2 : Nat), y6 = .pointer (some ⟨g6, 0, none⟩) ∧ y7 = .int .u32 (s : Int) ∧ y8 = .int .i64 code ∧ Blk wx g6 25 #[.int .i64 v.e, .int .i64 v.c, .int .i64 v.i, .int .i64 v.p, .int .i64 v.x, .slice B1 v.fs.length d1, .slice B2 v.is.length d2] ∧ w1.heap.size ≤ g6 ∧ DecR (la ++ lb) w1.heap.size wx v s code B1 d1 B2 d2 ∧ Below w1.heap.size w1 wx)
  case first =>
    have hcc := op4S X2.out
    refine wp_region_noPanic ?_
    refine wp_region_held_drew (S := (fun w' => w'.cell? ⟨g2, 0, none⟩ = some (.slice As N cs) ∧ w'.cell? ⟨g2, 1, none⟩ = some (.slice Aq M cq) ∧ w'.cell? ⟨g2, 2, none⟩ = some (.int .i64 (D.steps : Int)) ∧ w'.cell? ⟨g2, 3, none⟩ = some (.int .i64 D.left))) (by kernel_rfl) ?_ (fun hHeld => ?_)
    · ((try dsimp only) <;> (first | trivial | assumption | go_keep))
    clear hcc
    replace X2 := hide X2.out.drew
    have BE := hide (Below.refl w1.heap.size w1).drew
    generalize w1.drew = wd at *
    refine tk 0 ?_
    refine tk 1 ?_
    refine tk 3 ?_
    refine tk 4 ?_
    refine tk 5 ?_
    refine wpAnyH_ready (rs := [2, 14]) (by kernel_rfl) (by simp) ?_
    refine AllReadyH.cons (by simp only [List.getElem?_toArray, List.getElem?_cons_succ, List.getElem?_cons_zero]; rfl) (fun K hK => ?_) ?_
    rotate_left 1
    refine AllReadyH.cons (by simp only [List.getElem?_toArray, List.getElem?_cons_succ, List.getElem?_cons_zero]; rfl) (fun K hK => ?_) ?_
    rotate_left 1
    exact AllReadyH.nil
    focus
      have RX := R1.out _ BE.out
      go_simp
      refine RX.mono ?_; rintro r w20 ⟨rfl, hb⟩; replace BE := hide (BE.out.trans (hb.mono BE.out.size)); replace X2 := hide (X2.out.below hb); have hcc := op4S X2.out; clear hb
      refine hK.out _ _ ?_ (fun hHeld2 => ?_)
      · ((try dsimp only) <;> (first | trivial | assumption | go_keep))
      clear hHeld
      have hHeld := hHeld2
      clear hHeld2 hK K
      try simp only [Act.put, List.setIfInBounds_toArray, List.set_cons_zero, List.set_cons_succ]
      clear RX
      clear hHeld
      have hHeld := hcc
      clear hcc
      refine wpAnyH_ready (rs := [6, 14]) (by kernel_rfl) (by simp) ?_
      refine AllReadyH.cons (by simp only [List.getElem?_toArray, List.getElem?_cons_succ, List.getElem?_cons_zero]; rfl) (fun K hK => ?_) ?_
      rotate_left 1
      refine AllReadyH.cons (by simp only [List.getElem?_toArray, List.getElem?_cons_succ, List.getElem?_cons_zero]; rfl) (fun K hK => ?_) ?_
      rotate_left 1
      exact AllReadyH.nil
      focus
        have RX := R2.out _ BE.out
        go_simp
        refine RX.mono ?_; rintro r w21 ⟨rfl, hb⟩; replace BE := hide (BE.out.trans (hb.mono BE.out.size)); replace X2 := hide (X2.out.below hb); have hcc := op4S X2.out; clear hb
        refine hK.out _ _ ?_ (fun hHeld2 => ?_)
        · ((try dsimp only) <;> (first | trivial | assumption | go_keep))
        clear hHeld
        have hHeld := hHeld2
        clear hHeld2 hK K
        try simp only [Act.put, List.setIfInBounds_toArray, List.set_cons_zero, List.set_cons_succ]
        clear RX
        clear hHeld
        have hHeld := hcc
        clear hcc
        have htx := txt_app15 la lb
        have hs1 : (txt la).size = 64 := by simp [txt, ByteArray.size, LA.out]
        have hs2 : (txt lb).size = 64 := by simp [txt, ByteArray.size, LB.out]
        refine tk 7 ?_
        clear htx hs1 hs2
        refine wpAnyH_ready (rs := [8, 14]) (by kernel_rfl) (by simp) ?_
        refine AllReadyH.cons (by simp only [List.getElem?_toArray, List.getElem?_cons_succ, List.getElem?_cons_zero]; rfl) (fun K hK => ?_) ?_
        rotate_left 1
        refine AllReadyH.cons (by simp only [List.getElem?_toArray, List.getElem?_cons_succ, List.getElem?_cons_zero]; rfl) (fun K hK => ?_) ?_
        rotate_left 1
        exact AllReadyH.nil
        focus
          have hcv := Lib.run_convert_string_bytes (P := Tryd.prog) w21 9 26 5 (txt (la ++ lb)) Tryd.underlying9 Tryd.underlying26 Tryd.underlying5
          rw [show (txt (la ++ lb)).size = 128 by simp [txt, ByteArray.size, LA.out, LB.out]] at hcv
          have hb := bwR_below w21 5 (txt (la ++ lb))
          have HBT := hide (bwR_byT w21 (la ++ lb) (n := 128) (by rw [List.length_append, LA.out, LB.out]))
          have HCP := hide (And.intro (grownCap_ge w21 128 0 5) (grownCap_le_maxLen w21 128 0 5 (by unfold maxLen; omega)))
          replace X2 := hide (X2.out.below hb)
          have hcc := op4S X2.out
          go_simp
          skip
          refine hK.out _ _ ?_ (fun hHeld2 => ?_)
          · ((try dsimp only) <;> (exact hcc))
          clear hHeld
          have hHeld := hHeld2
          clear hHeld2 hK K
          try simp only [Act.put, List.setIfInBounds_toArray, List.set_cons_zero, List.set_cons_succ]
          obtain ⟨w22, hw⟩ : ∃ W, W = Lib.bytesWorld w21 5 (txt (la ++ lb)) := ⟨_, rfl⟩
          obtain ⟨cap, hcap⟩ : ∃ c, c = grownCap w21 128 0 5 := ⟨_, rfl⟩
          obtain ⟨gx, hgx⟩ : ∃ g, g = w21.heap.size := ⟨_, rfl⟩
          rw [← hw, ← hgx] at HBT
          rw [← hw] at hb X2 hHeld
          rw [← hcap] at HCP
          rw [← hw, ← hcap, ← hgx]
          rw [← hw] at hcc
          skip
          replace BE := hide (BE.out.trans (hb.mono BE.out.size))
          clear hcv hcc hw hcap hgx hb
          have HBB := hide (Nat.le_refl w22.heap.size)
          refine wpAnyH_ready (rs := [9, 14]) (by kernel_rfl) (by simp) ?_
          refine AllReadyH.cons (by simp only [List.getElem?_toArray, List.getElem?_cons_succ, List.getElem?_cons_zero]; rfl) (fun K hK => ?_) ?_
          rotate_left 1
          refine AllReadyH.cons (by simp only [List.getElem?_toArray, List.getElem?_cons_succ, List.getElem?_cons_zero]; rfl) (fun K hK => ?_) ?_
          rotate_left 1
          exact AllReadyH.nil
          focus
            have DC := rdec_any _ 128 cap _ (la ++ lb) w22 HBT.out HBB.out HCP.out.1 (by have := HCP.out.2; unfold maxLen at this; omega)
            go_simp
            refine DC.mono ?_; rintro r w23 ⟨hd, hb⟩; obtain ⟨v, s, code, B1, d1, B2, d2, rfl, hdr⟩ := hd.r (base' := w1.heap.size) BE.out.size; have DR := hide hdr; replace BE := hide (BE.out.trans (hb.mono BE.out.size)); replace X2 := hide (X2.out.below hb); have hcc := op4S X2.out; clear hb; clear hdr hd
            refine hK.out _ _ ?_ (fun hHeld2 => ?_)
            · ((try dsimp only) <;> (first | trivial | assumption | go_keep))
            clear hHeld
            have hHeld := hHeld2
            clear hHeld2 hK K
            try simp only [Act.put, List.setIfInBounds_toArray, List.set_cons_zero, List.set_cons_succ]
            clear DC HBT HCP HBB
            clear hHeld
            have hHeld := hcc
            clear hcc
            refine tk 10 ?_
            refine tk 11 ?_
            refine tk 12 ?_
            refine tk 13 ?_
            refine wpAnyH_ready (rs := [14]) (by kernel_rfl) (by simp) ?_
            refine AllReadyH.cons (by simp only [List.getElem?_toArray, List.getElem?_cons_succ, List.getElem?_cons_zero]; rfl) (fun K hK => ?_) ?_
            rotate_left 1
            · exact AllReadyH.nil
            go_simp
            refine hK.out _ _ ?_ (fun hHeld2 => ?_)
            · ((try dsimp only) <;> (first | trivial | assumption | go_keep))
            clear hHeld
            have hHeld := hHeld2
            clear hHeld2 hK K
            try simp only [Act.put, List.setIfInBounds_toArray, List.set_cons_zero, List.set_cons_succ]
            obtain ⟨w24, hw⟩ : ∃ W, W = w23.alloc (.cells #[.int .i64 0, .int .i64 0, .int .i64 0, .int .i64 0, .int .i64 0, .slice none 0 0, .slice none 0 0] 25) := ⟨_, rfl⟩
            have hb := (show Below w23.heap.size w23 w24 by rw [hw]; exact (Below.refl _ _).alloc (Nat.le_refl _) _)
            have hX := (show Blk w24 w23.heap.size 25 #[.int .i64 0, .int .i64 0, .int .i64 0, .int .i64 0, .int .i64 0, .slice none 0 0, .slice none 0 0] by rw [hw]; exact Blk.new _ _ _)
            rw [← hw]
            clear hw hHeld
            obtain ⟨g6, hg⟩ : ∃ g, g = w23.heap.size := ⟨_, rfl⟩
            have G6 := hide (show w1.heap.size ≤ g6 by rw [hg]; exact BE.out.size)
            rw [← hg] at hX ⊢
            have X6 := hide hX
            replace BE := hide (BE.out.trans (hb.mono BE.out.size))
            replace X2 := hide (X2.out.below hb)
            replace DR := hide (DR.out.below hb)
            have hHeld := op4S X2.out
            clear hb hX hg
            obtain ⟨y0, y1, y2, y3, y4, y5, y6⟩ := op7 X6.out
            have z := X6.out.frozen
            refine wpAnyH_ready (rs := [15]) (by kernel_rfl) (by simp) ?_
            refine AllReadyH.cons (by simp only [List.getElem?_toArray, List.getElem?_cons_succ, List.getElem?_cons_zero]; rfl) (fun K hK => ?_) ?_
            rotate_left 1
            · exact AllReadyH.nil
            go_simp
            obtain ⟨W, eW, S1, S2⟩ := set7r X6.out (.int .i64 v.e) (.int .i64 v.c) (.int .i64 v.i) (.int .i64 v.p) (.int .i64 v.x) (.slice B1 v.fs.length d1) (.slice B2 v.is.length d2); have BS := hide (Below.kp2 BE.out S2 BE.out.size (by simpa using G6.out)); have KB := kt_box S2 X6.out (base := w1.heap.size) G6.out; have DR2 := hide (DR.out.kt KB); have hcc := op4S (X2.out.kp S2 (by intro e; have e := List.mem_singleton.1 e; subst e; exact absurd (Blk.type X2.out X6.out).1 (by decide))); rw [eW]; clear eW KB
            refine hK.out _ _ ?_ (fun hHeld2 => ?_)
            · ((try dsimp only) <;> (first | trivial | assumption | go_keep))
            clear hHeld
            have hHeld := hHeld2
            clear hHeld2 hK K
            try simp only [Act.put, List.setIfInBounds_toArray, List.set_cons_zero, List.set_cons_succ]
            clear y0 y1 y2 y3 y4 y5 y6 z hHeld
            have hHeld := hcc
            clear hcc
            refine tk 16 ?_
            refine tk 17 ?_
            refine wpAnyH_done (by kernel_rfl) ?_ _
            refine NoPanic.normal ?_
            clear hHeld
            go_wp2_with fail
            go_meet
            exact ⟨g6, s, v, code, B1, d1, B2, d2, rfl, rfl, rfl, S1, G6.out, DR2.out, BS.out⟩
          focus
            go_simp
            refine hK.out _ _ ?_ (fun hHeld2 => ?_)
            · ((try dsimp only) <;> (first | trivial | assumption | go_keep))
            clear hHeld
            have hHeld := hHeld2
            clear hHeld2 hK K
            try simp only [Act.put, List.setIfInBounds_toArray, List.set_cons_zero, List.set_cons_succ]
            obtain ⟨w23, hw⟩ : ∃ W, W = w22.alloc (.cells #[.int .i64 0, .int .i64 0, .int .i64 0, .int .i64 0, .int .i64 0, .slice none 0 0, .slice none 0 0] 25) := ⟨_, rfl⟩
            have hb := (show Below w22.heap.size w22 w23 by rw [hw]; exact (Below.refl _ _).alloc (Nat.le_refl _) _)
            have hX := (show Blk w23 w22.heap.size 25 #[.int .i64 0, .int .i64 0, .int .i64 0, .int .i64 0, .int .i64 0, .slice none 0 0, .slice none 0 0] by rw [hw]; exact Blk.new _ _ _)
            rw [← hw]
            clear hw hHeld
            obtain ⟨g6, hg⟩ : ∃ g, g = w22.heap.size := ⟨_, rfl⟩
            have G6 := hide (show w1.heap.size ≤ g6 by rw [hg]; exact BE.out.size)
            rw [← hg] at hX ⊢
            have X6 := hide hX
            replace BE := hide (BE.out.trans (hb.mono BE.out.size))
            replace X2 := hide (X2.out.below hb)
            replace HBT := hide (RwAt.below HBT.out hb)
            replace HBB := hide (Nat.le_trans HBB.out hb.size)
            skip
            have hHeld := op4S X2.out
            clear hb hX hg
            have DC := rdec_any _ 128 cap _ (la ++ lb) w23 HBT.out HBB.out HCP.out.1 (by have := HCP.out.2; unfold maxLen at this; omega)
            refine wpAnyH_ready (rs := [9]) (by kernel_rfl) (by simp) ?_
            refine AllReadyH.cons (by simp only [List.getElem?_toArray, List.getElem?_cons_succ, List.getElem?_cons_zero]; rfl) (fun K hK => ?_) ?_
            rotate_left 1
            · exact AllReadyH.nil
            go_simp
            refine DC.mono ?_; rintro r w24 ⟨hd, hb⟩; obtain ⟨v, s, code, B1, d1, B2, d2, rfl, hdr⟩ := hd.r (base' := w1.heap.size) BE.out.size; have DR := hide hdr; replace BE := hide (BE.out.trans (hb.mono BE.out.size)); replace X2 := hide (X2.out.below hb); replace X6 := hide (X6.out.below hb); have hcc := op4S X2.out; clear hb; clear hdr hd
            refine hK.out _ _ ?_ (fun hHeld2 => ?_)
            · ((try dsimp only) <;> (first | trivial | assumption | go_keep))
            clear hHeld
            have hHeld := hHeld2
            clear hHeld2 hK K
            try simp only [Act.put, List.setIfInBounds_toArray, List.set_cons_zero, List.set_cons_succ]
            clear DC HBT HCP HBB
            clear hHeld
            have hHeld := hcc
            clear hcc
            refine tk 10 ?_
            refine tk 11 ?_
            refine tk 12 ?_
            refine tk 13 ?_
            obtain ⟨y0, y1, y2, y3, y4, y5, y6⟩ := op7 X6.out
            have z := X6.out.frozen
            refine wpAnyH_ready (rs := [15]) (by kernel_rfl) (by simp) ?_
            refine AllReadyH.cons (by simp only [List.getElem?_toArray, List.getElem?_cons_succ, List.getElem?_cons_zero]; rfl) (fun K hK => ?_) ?_
            rotate_left 1
            · exact AllReadyH.nil
            go_simp
            obtain ⟨W, eW, S1, S2⟩ := set7r X6.out (.int .i64 v.e) (.int .i64 v.c) (.int .i64 v.i) (.int .i64 v.p) (.int .i64 v.x) (.slice B1 v.fs.length d1) (.slice B2 v.is.length d2); have BS := hide (Below.kp2 BE.out S2 BE.out.size (by simpa using G6.out)); have KB := kt_box S2 X6.out (base := w1.heap.size) G6.out; have DR2 := hide (DR.out.kt KB); have hcc := op4S (X2.out.kp S2 (by intro e; have e := List.mem_singleton.1 e; subst e; exact absurd (Blk.type X2.out X6.out).1 (by decide))); rw [eW]; clear eW KB
            refine hK.out _ _ ?_ (fun hHeld2 => ?_)
            · ((try dsimp only) <;> (first | trivial | assumption | go_keep))
            clear hHeld
            have hHeld := hHeld2
            clear hHeld2 hK K
            try simp only [Act.put, List.setIfInBounds_toArray, List.set_cons_zero, List.set_cons_succ]
            clear y0 y1 y2 y3 y4 y5 y6 z hHeld
            have hHeld := hcc
            clear hcc
            refine tk 16 ?_
            refine tk 17 ?_
            refine wpAnyH_done (by kernel_rfl) ?_ _
            refine NoPanic.normal ?_
            clear hHeld
            go_wp2_with fail
            go_meet
            exact ⟨g6, s, v, code, B1, d1, B2, d2, rfl, rfl, rfl, S1, G6.out, DR2.out, BS.out⟩
        focus
          go_simp
          refine hK.out _ _ ?_ (fun hHeld2 => ?_)
          · ((try dsimp only) <;> (first | trivial | assumption | go_keep))
          clear hHeld
          have hHeld := hHeld2
          clear hHeld2 hK K
          try simp only [Act.put, List.setIfInBounds_toArray, List.set_cons_zero, List.set_cons_succ]
          obtain ⟨w22, hw⟩ : ∃ W, W = w21.alloc (.cells #[.int .i64 0, .int .i64 0, .int .i64 0, .int .i64 0, .int .i64 0, .slice none 0 0, .slice none 0 0] 25) := ⟨_, rfl⟩
          have hb := (show Below w21.heap.size w21 w22 by rw [hw]; exact (Below.refl _ _).alloc (Nat.le_refl _) _)
          have hX := (show Blk w22 w21.heap.size 25 #[.int .i64 0, .int .i64 0, .int .i64 0, .int .i64 0, .int .i64 0, .slice none 0 0, .slice none 0 0] by rw [hw]; exact Blk.new _ _ _)
          rw [← hw]
          clear hw hHeld
          obtain ⟨g6, hg⟩ : ∃ g, g = w21.heap.size := ⟨_, rfl⟩
          have G6 := hide (show w1.heap.size ≤ g6 by rw [hg]; exact BE.out.size)
          rw [← hg] at hX ⊢
          have X6 := hide hX
          replace BE := hide (BE.out.trans (hb.mono BE.out.size))
          replace X2 := hide (X2.out.below hb)
          skip
          have hHeld := op4S X2.out
          clear hb hX hg
          have hcv := Lib.run_convert_string_bytes (P := Tryd.prog) w22 9 26 5 (txt (la ++ lb)) Tryd.underlying9 Tryd.underlying26 Tryd.underlying5
          rw [show (txt (la ++ lb)).size = 128 by simp [txt, ByteArray.size, LA.out, LB.out]] at hcv
          have hb := bwR_below w22 5 (txt (la ++ lb))
          have HBT := hide (bwR_byT w22 (la ++ lb) (n := 128) (by rw [List.length_append, LA.out, LB.out]))
          have HCP := hide (And.intro (grownCap_ge w22 128 0 5) (grownCap_le_maxLen w22 128 0 5 (by unfold maxLen; omega)))
          replace X2 := hide (X2.out.below hb)
          have hcc := op4S X2.out
          refine wpAnyH_ready (rs := [8]) (by kernel_rfl) (by simp) ?_
          refine AllReadyH.cons (by simp only [List.getElem?_toArray, List.getElem?_cons_succ, List.getElem?_cons_zero]; rfl) (fun K hK => ?_) ?_
          rotate_left 1
          · exact AllReadyH.nil
          go_simp
          skip
          refine hK.out _ _ ?_ (fun hHeld2 => ?_)
          · ((try dsimp only) <;> (exact hcc))
          clear hHeld
          have hHeld := hHeld2
          clear hHeld2 hK K
          try simp only [Act.put, List.setIfInBounds_toArray, List.set_cons_zero, List.set_cons_succ]
          obtain ⟨w23, hw⟩ : ∃ W, W = Lib.bytesWorld w22 5 (txt (la ++ lb)) := ⟨_, rfl⟩
          obtain ⟨cap, hcap⟩ : ∃ c, c = grownCap w22 128 0 5 := ⟨_, rfl⟩
          obtain ⟨gx, hgx⟩ : ∃ g, g = w22.heap.size := ⟨_, rfl⟩
          rw [← hw, ← hgx] at HBT
          rw [← hw] at hb X2 hHeld
          rw [← hcap] at HCP
          rw [← hw, ← hcap, ← hgx]
          rw [← hw] at hcc
          replace X6 := hide (X6.out.below hb)
          replace BE := hide (BE.out.trans (hb.mono BE.out.size))
          clear hcv hcc hw hcap hgx hb
          have HBB := hide (Nat.le_refl w23.heap.size)
          have DC := rdec_any _ 128 cap _ (la ++ lb) w23 HBT.out HBB.out HCP.out.1 (by have := HCP.out.2; unfold maxLen at this; omega)
          refine wpAnyH_ready (rs := [9]) (by kernel_rfl) (by simp) ?_
          refine AllReadyH.cons (by simp only [List.getElem?_toArray, List.getElem?_cons_succ, List.getElem?_cons_zero]; rfl) (fun K hK => ?_) ?_
          rotate_left 1
          · exact AllReadyH.nil
          go_simp
          refine DC.mono ?_; rintro r w24 ⟨hd, hb⟩; obtain ⟨v, s, code, B1, d1, B2, d2, rfl, hdr⟩ := hd.r (base' := w1.heap.size) BE.out.size; have DR := hide hdr; replace BE := hide (BE.out.trans (hb.mono BE.out.size)); replace X2 := hide (X2.out.below hb); replace X6 := hide (X6.out.below hb); have hcc := op4S X2.out; clear hb; clear hdr hd
          refine hK.out _ _ ?_ (fun hHeld2 => ?_)
          · ((try dsimp only) <;> (first | trivial | assumption | go_keep))
          clear hHeld
          have hHeld := hHeld2
          clear hHeld2 hK K
          try simp only [Act.put, List.setIfInBounds_toArray, List.set_cons_zero, List.set_cons_succ]
          clear DC HBT HCP HBB
          clear hHeld
          have hHeld := hcc
          clear hcc
          refine tk 10 ?_
          refine tk 11 ?_
          refine tk 12 ?_
          refine tk 13 ?_
          obtain ⟨y0, y1, y2, y3, y4, y5, y6⟩ := op7 X6.out
          have z := X6.out.frozen
          refine wpAnyH_ready (rs := [15]) (by kernel_rfl) (by simp) ?_
          refine AllReadyH.cons (by simp only [List.getElem?_toArray, List.getElem?_cons_succ, List.getElem?_cons_zero]; rfl) (fun K hK => ?_) ?_
          rotate_left 1
          · exact AllReadyH.nil
          go_simp
          obtain ⟨W, eW, S1, S2⟩ := set7r X6.out (.int .i64 v.e) (.int .i64 v.c) (.int .i64 v.i) (.int .i64 v.p) (.int .i64 v.x) (.slice B1 v.fs.length d1) (.slice B2 v.is.length d2); have BS := hide (Below.kp2 BE.out S2 BE.out.size (by simpa using G6.out)); have KB := kt_box S2 X6.out (base := w1.heap.size) G6.out; have DR2 := hide (DR.out.kt KB); have hcc := op4S (X2.out.kp S2 (by intro e; have e := List.mem_singleton.1 e; subst e; exact absurd (Blk.type X2.out X6.out).1 (by decide))); rw [eW]; clear eW KB
          refine hK.out _ _ ?_ (fun hHeld2 => ?_)
          · ((try dsimp only) <;> (first | trivial | assumption | go_keep))
          clear hHeld
          have hHeld := hHeld2
          clear hHeld2 hK K
          try simp only [Act.put, List.setIfInBounds_toArray, List.set_cons_zero, List.set_cons_succ]
          clear y0 y1 y2 y3 y4 y5 y6 z hHeld
          have hHeld := hcc
          clear hcc
          refine tk 16 ?_
          refine tk 17 ?_
          refine wpAnyH_done (by kernel_rfl) ?_ _
          refine NoPanic.normal ?_
          clear hHeld
          go_wp2_with fail
          go_meet
          exact ⟨g6, s, v, code, B1, d1, B2, d2, rfl, rfl, rfl, S1, G6.out, DR2.out, BS.out⟩
      focus
        go_simp
        refine hK.out _ _ ?_ (fun hHeld2 => ?_)
        · ((try dsimp only) <;> (first | trivial | assumption | go_keep))
        clear hHeld
        have hHeld := hHeld2
        clear hHeld2 hK K
        try simp only [Act.put, List.setIfInBounds_toArray, List.set_cons_zero, List.set_cons_succ]
        obtain ⟨w21, hw⟩ : ∃ W, W = w20.alloc (.cells #[.int .i64 0, .int .i64 0, .int .i64 0, .int .i64 0, .int .i64 0, .slice none 0 0, .slice none 0 0] 25) := ⟨_, rfl⟩
        have hb := (show Below w20.heap.size w20 w21 by rw [hw]; exact (Below.refl _ _).alloc (Nat.le_refl _) _)
        have hX := (show Blk w21 w20.heap.size 25 #[.int .i64 0, .int .i64 0, .int .i64 0, .int .i64 0, .int .i64 0, .slice none 0 0, .slice none 0 0] by rw [hw]; exact Blk.new _ _ _)
        rw [← hw]
        clear hw hHeld
        obtain ⟨g6, hg⟩ : ∃ g, g = w20.heap.size := ⟨_, rfl⟩
        have G6 := hide (show w1.heap.size ≤ g6 by rw [hg]; exact BE.out.size)
        rw [← hg] at hX ⊢
        have X6 := hide hX
        replace BE := hide (BE.out.trans (hb.mono BE.out.size))
        replace X2 := hide (X2.out.below hb)
        skip
        have hHeld := op4S X2.out
        clear hb hX hg
        have RX := R2.out _ BE.out
        refine wpAnyH_ready (rs := [6]) (by kernel_rfl) (by simp) ?_
        refine AllReadyH.cons (by simp only [List.getElem?_toArray, List.getElem?_cons_succ, List.getElem?_cons_zero]; rfl) (fun K hK => ?_) ?_
        rotate_left 1
        · exact AllReadyH.nil
        go_simp
        refine RX.mono ?_; rintro r w22 ⟨rfl, hb⟩; replace BE := hide (BE.out.trans (hb.mono BE.out.size)); replace X2 := hide (X2.out.below hb); replace X6 := hide (X6.out.below hb); have hcc := op4S X2.out; clear hb
        refine hK.out _ _ ?_ (fun hHeld2 => ?_)
        · ((try dsimp only) <;> (first | trivial | assumption | go_keep))
        clear hHeld
        have hHeld := hHeld2
        clear hHeld2 hK K
        try simp only [Act.put, List.setIfInBounds_toArray, List.set_cons_zero, List.set_cons_succ]
        clear RX
        clear hHeld
        have hHeld := hcc
        clear hcc
        have htx := txt_app15 la lb
        have hs1 : (txt la).size = 64 := by simp [txt, ByteArray.size, LA.out]
        have hs2 : (txt lb).size = 64 := by simp [txt, ByteArray.size, LB.out]
        refine tk 7 ?_
        clear htx hs1 hs2
        have hcv := Lib.run_convert_string_bytes (P := Tryd.prog) w22 9 26 5 (txt (la ++ lb)) Tryd.underlying9 Tryd.underlying26 Tryd.underlying5
        rw [show (txt (la ++ lb)).size = 128 by simp [txt, ByteArray.size, LA.out, LB.out]] at hcv
        have hb := bwR_below w22 5 (txt (la ++ lb))
        have HBT := hide (bwR_byT w22 (la ++ lb) (n := 128) (by rw [List.length_append, LA.out, LB.out]))
        have HCP := hide (And.intro (grownCap_ge w22 128 0 5) (grownCap_le_maxLen w22 128 0 5 (by unfold maxLen; omega)))
        replace X2 := hide (X2.out.below hb)
        have hcc := op4S X2.out
        refine wpAnyH_ready (rs := [8]) (by kernel_rfl) (by simp) ?_
        refine AllReadyH.cons (by simp only [List.getElem?_toArray, List.getElem?_cons_succ, List.getElem?_cons_zero]; rfl) (fun K hK => ?_) ?_
        rotate_left 1
        · exact AllReadyH.nil
        go_simp
        skip
        refine hK.out _ _ ?_ (fun hHeld2 => ?_)
        · ((try dsimp only) <;> (exact hcc))
        clear hHeld
        have hHeld := hHeld2
        clear hHeld2 hK K
        try simp only [Act.put, List.setIfInBounds_toArray, List.set_cons_zero, List.set_cons_succ]
        obtain ⟨w23, hw⟩ : ∃ W, W = Lib.bytesWorld w22 5 (txt (la ++ lb)) := ⟨_, rfl⟩
        obtain ⟨cap, hcap⟩ : ∃ c, c = grownCap w22 128 0 5 := ⟨_, rfl⟩
        obtain ⟨gx, hgx⟩ : ∃ g, g = w22.heap.size := ⟨_, rfl⟩
        rw [← hw, ← hgx] at HBT
        rw [← hw] at hb X2 hHeld
        rw [← hcap] at HCP
        rw [← hw, ← hcap, ← hgx]
        rw [← hw] at hcc
        replace X6 := hide (X6.out.below hb)
        replace BE := hide (BE.out.trans (hb.mono BE.out.size))
        clear hcv hcc hw hcap hgx hb
        have HBB := hide (Nat.le_refl w23.heap.size)
        have DC := rdec_any _ 128 cap _ (la ++ lb) w23 HBT.out HBB.out HCP.out.1 (by have := HCP.out.2; unfold maxLen at this; omega)
        refine wpAnyH_ready (rs := [9]) (by kernel_rfl) (by simp) ?_
        refine AllReadyH.cons (by simp only [List.getElem?_toArray, List.getElem?_cons_succ, List.getElem?_cons_zero]; rfl) (fun K hK => ?_) ?_
        rotate_left 1
        · exact AllReadyH.nil
        go_simp
        refine DC.mono ?_; rintro r w24 ⟨hd, hb⟩; obtain ⟨v, s, code, B1, d1, B2, d2, rfl, hdr⟩ := hd.r (base' := w1.heap.size) BE.out.size; have DR := hide hdr; replace BE := hide (BE.out.trans (hb.mono BE.out.size)); replace X2 := hide (X2.out.below hb); replace X6 := hide (X6.out.below hb); have hcc := op4S X2.out; clear hb; clear hdr hd
        refine hK.out _ _ ?_ (fun hHeld2 => ?_)
        · ((try dsimp only) <;> (first | trivial | assumption | go_keep))
        clear hHeld
        have hHeld := hHeld2
        clear hHeld2 hK K
        try simp only [Act.put, List.setIfInBounds_toArray, List.set_cons_zero, List.set_cons_succ]
        clear DC HBT HCP HBB
        clear hHeld
        have hHeld := hcc
        clear hcc
        refine tk 10 ?_
        refine tk 11 ?_
        refine tk 12 ?_
        refine tk 13 ?_
        obtain ⟨y0, y1, y2, y3, y4, y5, y6⟩ := op7 X6.out
        have z := X6.out.frozen
        refine wpAnyH_ready (rs := [15]) (by kernel_rfl) (by simp) ?_
        refine AllReadyH.cons (by simp only [List.getElem?_toArray, List.getElem?_cons_succ, List.getElem?_cons_zero]; rfl) (fun K hK => ?_) ?_
        rotate_left 1
        · exact AllReadyH.nil
        go_simp
        obtain ⟨W, eW, S1, S2⟩ := set7r X6.out (.int .i64 v.e) (.int .i64 v.c) (.int .i64 v.i) (.int .i64 v.p) (.int .i64 v.x) (.slice B1 v.fs.length d1) (.slice B2 v.is.length d2); have BS := hide (Below.kp2 BE.out S2 BE.out.size (by simpa using G6.out)); have KB := kt_box S2 X6.out (base := w1.heap.size) G6.out; have DR2 := hide (DR.out.kt KB); have hcc := op4S (X2.out.kp S2 (by intro e; have e := List.mem_singleton.1 e; subst e; exact absurd (Blk.type X2.out X6.out).1 (by decide))); rw [eW]; clear eW KB
        refine hK.out _ _ ?_ (fun hHeld2 => ?_)
        · ((try dsimp only) <;> (first | trivial | assumption | go_keep))
        clear hHeld
        have hHeld := hHeld2
        clear hHeld2 hK K
        try simp only [Act.put, List.setIfInBounds_toArray, List.set_cons_zero, List.set_cons_succ]
        clear y0 y1 y2 y3 y4 y5 y6 z hHeld
        have hHeld := hcc
        clear hcc
        refine tk 16 ?_
        refine tk 17 ?_
        refine wpAnyH_done (by kernel_rfl) ?_ _
        refine NoPanic.normal ?_
        clear hHeld
        go_wp2_with fail
        go_meet
        exact ⟨g6, s, v, code, B1, d1, B2, d2, rfl, rfl, rfl, S1, G6.out, DR2.out, BS.out⟩
    focus
      go_simp
      refine hK.out _ _ ?_ (fun hHeld2 => ?_)
      · ((try dsimp only) <;> (first | trivial | assumption | go_keep))
      clear hHeld
      have hHeld := hHeld2
      clear hHeld2 hK K
      try simp only [Act.put, List.setIfInBounds_toArray, List.set_cons_zero, List.set_cons_succ]
      obtain ⟨w20, hw⟩ : ∃ W, W = wd.alloc (.cells #[.int .i64 0, .int .i64 0, .int .i64 0, .int .i64 0, .int .i64 0, .slice none 0 0, .slice none 0 0] 25) := ⟨_, rfl⟩
      have hb := (show Below wd.heap.size wd w20 by rw [hw]; exact (Below.refl _ _).alloc (Nat.le_refl _) _)
      have hX := (show Blk w20 wd.heap.size 25 #[.int .i64 0, .int .i64 0, .int .i64 0, .int .i64 0, .int .i64 0, .slice none 0 0, .slice none 0 0] by rw [hw]; exact Blk.new _ _ _)
      rw [← hw]
      clear hw hHeld
      obtain ⟨g6, hg⟩ : ∃ g, g = wd.heap.size := ⟨_, rfl⟩
      have G6 := hide (show w1.heap.size ≤ g6 by rw [hg]; exact BE.out.size)
      rw [← hg] at hX ⊢
      have X6 := hide hX
      replace BE := hide (BE.out.trans (hb.mono BE.out.size))
      replace X2 := hide (X2.out.below hb)
      skip
      have hHeld := op4S X2.out
      clear hb hX hg
      have RX := R1.out _ BE.out
      refine wpAnyH_ready (rs := [2]) (by kernel_rfl) (by simp) ?_
      refine AllReadyH.cons (by simp only [List.getElem?_toArray, List.getElem?_cons_succ, List.getElem?_cons_zero]; rfl) (fun K hK => ?_) ?_
      rotate_left 1
      · exact AllReadyH.nil
      go_simp
      refine RX.mono ?_; rintro r w21 ⟨rfl, hb⟩; replace BE := hide (BE.out.trans (hb.mono BE.out.size)); replace X2 := hide (X2.out.below hb); replace X6 := hide (X6.out.below hb); have hcc := op4S X2.out; clear hb
      refine hK.out _ _ ?_ (fun hHeld2 => ?_)
      · ((try dsimp only) <;> (first | trivial | assumption | go_keep))
      clear hHeld
      have hHeld := hHeld2
      clear hHeld2 hK K
      try simp only [Act.put, List.setIfInBounds_toArray, List.set_cons_zero, List.set_cons_succ]
      clear RX
      clear hHeld
      have hHeld := hcc
      clear hcc
      have RX := R2.out _ BE.out
      refine wpAnyH_ready (rs := [6]) (by kernel_rfl) (by simp) ?_
      refine AllReadyH.cons (by simp only [List.getElem?_toArray, List.getElem?_cons_succ, List.getElem?_cons_zero]; rfl) (fun K hK => ?_) ?_
      rotate_left 1
      · exact AllReadyH.nil
      go_simp
      refine RX.mono ?_; rintro r w22 ⟨rfl, hb⟩; replace BE := hide (BE.out.trans (hb.mono BE.out.size)); replace X2 := hide (X2.out.below hb); replace X6 := hide (X6.out.below hb); have hcc := op4S X2.out; clear hb
      refine hK.out _ _ ?_ (fun hHeld2 => ?_)
      · ((try dsimp only) <;> (first | trivial | assumption | go_keep))
      clear hHeld
      have hHeld := hHeld2
      clear hHeld2 hK K
      try simp only [Act.put, List.setIfInBounds_toArray, List.set_cons_zero, List.set_cons_succ]
      clear RX
      clear hHeld
      have hHeld := hcc
      clear hcc
      have htx := txt_app15 la lb
      have hs1 : (txt la).size = 64 := by simp [txt, ByteArray.size, LA.out]
      have hs2 : (txt lb).size = 64 := by simp [txt, ByteArray.size, LB.out]
      refine tk 7 ?_
      clear htx hs1 hs2
      have hcv := Lib.run_convert_string_bytes (P := Tryd.prog) w22 9 26 5 (txt (la ++ lb)) Tryd.underlying9 Tryd.underlying26 Tryd.underlying5
      rw [show (txt (la ++ lb)).size = 128 by simp [txt, ByteArray.size, LA.out, LB.out]] at hcv
      have hb := bwR_below w22 5 (txt (la ++ lb))
      have HBT := hide (bwR_byT w22 (la ++ lb) (n := 128) (by rw [List.length_append, LA.out, LB.out]))
      have HCP := hide (And.intro (grownCap_ge w22 128 0 5) (grownCap_le_maxLen w22 128 0 5 (by unfold maxLen; omega)))
      replace X2 := hide (X2.out.below hb)
      have hcc := op4S X2.out
      refine wpAnyH_ready (rs := [8]) (by kernel_rfl) (by simp) ?_
      refine AllReadyH.cons (by simp only [List.getElem?_toArray, List.getElem?_cons_succ, List.getElem?_cons_zero]; rfl) (fun K hK => ?_) ?_
      rotate_left 1
      · exact AllReadyH.nil
      go_simp
      skip
      refine hK.out _ _ ?_ (fun hHeld2 => ?_)
      · ((try dsimp only) <;> (exact hcc))
      clear hHeld
      have hHeld := hHeld2
      clear hHeld2 hK K
      try simp only [Act.put, List.setIfInBounds_toArray, List.set_cons_zero, List.set_cons_succ]
      obtain ⟨w23, hw⟩ : ∃ W, W = Lib.bytesWorld w22 5 (txt (la ++ lb)) := ⟨_, rfl⟩
      obtain ⟨cap, hcap⟩ : ∃ c, c = grownCap w22 128 0 5 := ⟨_, rfl⟩
      obtain ⟨gx, hgx⟩ : ∃ g, g = w22.heap.size := ⟨_, rfl⟩
      rw [← hw, ← hgx] at HBT
      rw [← hw] at hb X2 hHeld
      rw [← hcap] at HCP
      rw [← hw, ← hcap, ← hgx]
      rw [← hw] at hcc
      replace X6 := hide (X6.out.below hb)
      replace BE := hide (BE.out.trans (hb.mono BE.out.size))
      clear hcv hcc hw hcap hgx hb
      have HBB := hide (Nat.le_refl w23.heap.size)
      have DC := rdec_any _ 128 cap _ (la ++ lb) w23 HBT.out HBB.out HCP.out.1 (by have := HCP.out.2; unfold maxLen at this; omega)
      refine wpAnyH_ready (rs := [9]) (by kernel_rfl) (by simp) ?_
      refine AllReadyH.cons (by simp only [List.getElem?_toArray, List.getElem?_cons_succ, List.getElem?_cons_zero]; rfl) (fun K hK => ?_) ?_
      rotate_left 1
      · exact AllReadyH.nil
      go_simp
      refine DC.mono ?_; rintro r w24 ⟨hd, hb⟩; obtain ⟨v, s, code, B1, d1, B2, d2, rfl, hdr⟩ := hd.r (base' := w1.heap.size) BE.out.size; have DR := hide hdr; replace BE := hide (BE.out.trans (hb.mono BE.out.size)); replace X2 := hide (X2.out.below hb); replace X6 := hide (X6.out.below hb); have hcc := op4S X2.out; clear hb; clear hdr hd
      refine hK.out _ _ ?_ (fun hHeld2 => ?_)
      · ((try dsimp only) <;> (first | trivial | assumption | go_keep))
      clear hHeld
      have hHeld := hHeld2
      clear hHeld2 hK K
      try simp only [Act.put, List.setIfInBounds_toArray, List.set_cons_zero, List.set_cons_succ]
      clear DC HBT HCP HBB
      clear hHeld
      have hHeld := hcc
      clear hcc
      refine tk 10 ?_
      refine tk 11 ?_
      refine tk 12 ?_
      refine tk 13 ?_
      obtain ⟨y0, y1, y2, y3, y4, y5, y6⟩ := op7 X6.out
      have z := X6.out.frozen
      refine wpAnyH_ready (rs := [15]) (by kernel_rfl) (by simp) ?_
      refine AllReadyH.cons (by simp only [List.getElem?_toArray, List.getElem?_cons_succ, List.getElem?_cons_zero]; rfl) (fun K hK => ?_) ?_
      rotate_left 1
      · exact AllReadyH.nil
      go_simp
      obtain ⟨W, eW, S1, S2⟩ := set7r X6.out (.int .i64 v.e) (.int .i64 v.c) (.int .i64 v.i) (.int .i64 v.p) (.int .i64 v.x) (.slice B1 v.fs.length d1) (.slice B2 v.is.length d2); have BS := hide (Below.kp2 BE.out S2 BE.out.size (by simpa using G6.out)); have KB := kt_box S2 X6.out (base := w1.heap.size) G6.out; have DR2 := hide (DR.out.kt KB); have hcc := op4S (X2.out.kp S2 (by intro e; have e := List.mem_singleton.1 e; subst e; exact absurd (Blk.type X2.out X6.out).1 (by decide))); rw [eW]; clear eW KB
      refine hK.out _ _ ?_ (fun hHeld2 => ?_)
      · ((try dsimp only) <;> (first | trivial | assumption | go_keep))
      clear hHeld
      have hHeld := hHeld2
      clear hHeld2 hK K
      try simp only [Act.put, List.setIfInBounds_toArray, List.set_cons_zero, List.set_cons_succ]
      clear y0 y1 y2 y3 y4 y5 y6 z hHeld
      have hHeld := hcc
      clear hcc
      refine tk 16 ?_
      refine tk 17 ?_
      refine wpAnyH_done (by kernel_rfl) ?_ _
      refine NoPanic.normal ?_
      clear hHeld
      go_wp2_with fail
      go_meet
      exact ⟨g6, s, v, code, B1, d1, B2, d2, rfl, rfl, rfl, S1, G6.out, DR2.out, BS.out⟩
  case rest =>
    obtain ⟨g6, s, v, code, B1, d1, B2, d2, rfl, rfl, rfl, hx6, hg6, hdr, hbx⟩ := hcut
    have X6 := hide hx6
    have G6 := hide (Nat.le_trans BW.out.size hg6)
    have DR := hide hdr
    have W1 := hide BW.out.size
    replace X2 := hide (X2.out.below hbx)
    replace X4 := hide (X4.out.below hbx)
    replace BW := hide (BW.out.trans (hbx.mono BW.out.size))
    clear hx6 hg6 hdr hbx R1 R2 hk1
    rcases DR.out with ⟨hE, rfl, hO, hI⟩ | ⟨hn, rfl⟩
    rotate_left
    · have HD := hide (decS_no hn)
      clear hn DR
      go_upto_region 4 with fail
      refine wp_region_noPanic ?_
      refine wp_region_held_drew (S := (fun _ => True)) (by kernel_rfl) ?_ (fun hHeld => ?_)
      · ((try dsimp only) <;> (first | trivial | assumption | go_keep))
      replace X4 := hide X4.out.drew
      replace BW := hide BW.out.drew
      generalize wc.drew = wd at *
      refine tk 0 ?_
      refine tk 1 ?_
      refine tk 2 ?_
      refine sk 3 ?_
      refine sk 4 ?_
      refine sk 5 ?_
      refine sk 6 ?_
      refine sk 7 ?_
      refine sk 8 ?_
      refine sk 9 ?_
      refine sk 10 ?_
      refine tk 11 ?_
      refine wpAnyH_done (by kernel_rfl) ?_ _
      refine NoPanic.normal ?_
      clear hHeld
      have HP := hide (rdS_none (D := D) (a := k) (by rw [← HL.out.1, ← HL.out.2]; exact HD.out))
      obtain ⟨y0, y1, y2, y3, y4, y5, y6, y7, y8⟩ := op9z X4.out
      have z := X4.out.frozen
      go_wp2_with fail
      clear y0 y1 y2 y3 y4 y5 y6 y7 y8 z
      obtain ⟨S1, S2⟩ := set9 X4.out (.int .i64 0) (.int .i64 0) (.int .i64 0) (.int .i64 0) (.int .i64 0) (.int .i64 0) (.slice none 0 0) (.slice none 0 0) (.slice none 0 0)
      refine ret_rr (g := g4) rfl rfl S1 rfl ⟨RrAns.bad HP.out (by decide), ?_⟩
      exact Below.kp2 BW.out S2 BW.out.size (by simp [G4.out])
    have HE := hide hE
    have HO := hide (FisAt.dnR (base' := w.heap.size) hO (Nat.le_refl _) W1.out)
    have HI := hide (RwAt.dnR (base' := w.heap.size) hI (Nat.le_refl _) W1.out)
    clear DR hE hO hI
    have BDV := hide (PV.bd HE.out.1)
    have HNV := hide (show 2 + v.is.length + lsN v.fs = v.n from rfl)
    obtain ⟨n, hn⟩ : ∃ n, n = v.n := ⟨_, rfl⟩
    have HVN := hide (show n = v.n ∧ 2 ≤ n ∧ n ≤ 200 from ⟨hn, by rw [hn]; exact PV.n_bd HE.out.1⟩)
    have hn200 : n ≤ 200 := HVN.out.2.2
    rw [← hn] at HNV
    clear hn
    have SB := hide (show ∀ W, FisAt w.heap.size w.heap.size W B1 v.fs.length v.fs → Calls Tryd.prog 50 #[.agg #[.int .i64 v.e, .int .i64 v.c, .int .i64 v.i, .int .i64 v.p, .int .i64 v.x, .slice B1 v.fs.length d1, .slice B2 v.is.length d2]] W fun r w' => r = .returned (.int .i64 (n : Int)) ∧ Below W.heap.size W w' from fun W hW => by
      have := BDV.out
      have h := rblocks_any v.e v.c v.i v.p v.x B1 B2 v.fs.length d1 v.is.length d2 _ _ v.fs W hW (by omega) (by omega) (by omega)
      rw [HNV.out] at h
      exact h)
    have hD := hide (show decS (D.read k ++ D.read (k + 1)) = some (v, s) by rw [← HL.out.1, ← HL.out.2]; exact decS_enc HE.out)
    have hwn : IntKind.i64.wrap ((k : Int) + (n : Int)) = (k : Int) + (n : Int) := by rw [IntKind.wrap_i64]; omega
    go_upto_region 4 with fail
    have hcc := And.intro (op4S X2.out).1 (op7 X6.out)
    refine wp_region_noPanic ?_
    refine wp_region_held_drew (S := (fun w' => w'.cell? ⟨g2, 0, none⟩ = some (.slice As N cs) ∧ w'.cell? ⟨g6, 0, none⟩ = some (.int .i64 v.e) ∧ w'.cell? ⟨g6, 1, none⟩ = some (.int .i64 v.c) ∧ w'.cell? ⟨g6, 2, none⟩ = some (.int .i64 v.i) ∧ w'.cell? ⟨g6, 3, none⟩ = some (.int .i64 v.p) ∧ w'.cell? ⟨g6, 4, none⟩ = some (.int .i64 v.x) ∧ w'.cell? ⟨g6, 5, none⟩ = some (.slice B1 v.fs.length d1) ∧ w'.cell? ⟨g6, 6, none⟩ = some (.slice B2 v.is.length d2))) (by kernel_rfl) ?_ (fun hHeld => ?_)
    · ((try dsimp only) <;> (first | trivial | assumption | go_keep))
    clear hcc
    replace X2 := hide X2.out.drew
    replace X4 := hide X4.out.drew
    replace X6 := hide X6.out.drew
    replace HO := hide (HO.out.below (Below.refl _ _).drew)
    replace HI := hide (RwAt.below HI.out (Below.refl _ _).drew)
    replace BW := hide BW.out.drew
    generalize wc.drew = wd at *
    refine tk 0 ?_
    refine tk 1 ?_
    refine tk 2 ?_
    refine tk 3 ?_
    refine tk 4 ?_
    refine tk 7 ?_
    refine tk 8 ?_
    refine tk 9 ?_
    have SX := SB.out _ HO.out
    refine wpAnyH_ready (rs := [5]) (by kernel_rfl) (by simp) ?_
    refine AllReadyH.cons (by simp only [List.getElem?_toArray, List.getElem?_cons_succ, List.getElem?_cons_zero]; rfl) (fun K hK => ?_) ?_
    rotate_left 1
    · exact AllReadyH.nil
    go_simp
    refine SX.mono ?_; rintro r we ⟨rfl, hb⟩; replace X2 := hide (X2.out.below hb); replace X4 := hide (X4.out.below hb); replace X6 := hide (X6.out.below hb); replace HO := hide (HO.out.below hb); replace HI := hide (RwAt.below HI.out hb); replace BW := hide (BW.out.trans (hb.mono BW.out.size)); have hcc := And.intro (op4S X2.out).1 (op7 X6.out); clear hb
    refine hK.out _ _ ?_ (fun hHeld2 => ?_)
    · ((try dsimp only) <;> (first | trivial | assumption | go_keep))
    clear hHeld
    have hHeld := hHeld2
    clear hHeld2 hK K
    try simp only [Act.put, List.setIfInBounds_toArray, List.set_cons_zero, List.set_cons_succ]
    clear hHeld SX
    have hHeld := hcc
    clear hcc
    refine tk 6 ?_
    refine tk 10 ?_
    refine tk 11 ?_
    refine wpAnyH_done (by kernel_rfl) ?_ _
    refine NoPanic.normal ?_
    clear hHeld hwn
    by_cases hlong : (N : Int) < (k : Int) + (n : Int)
    ·
      have HP := hide (rdS_long (D := D) (a := k) (v := v) (s := s) hD.out (by rw [← HN.out.1, ← HVN.out.1]; omega))
      obtain ⟨y0, y1, y2, y3, y4, y5, y6, y7, y8⟩ := op9z X4.out
      have z := X4.out.frozen
      go_wp2_with fail
      clear y0 y1 y2 y3 y4 y5 y6 y7 y8 z
      obtain ⟨S1, S2⟩ := set9 X4.out (.int .i64 0) (.int .i64 0) (.int .i64 0) (.int .i64 0) (.int .i64 0) (.int .i64 0) (.slice none 0 0) (.slice none 0 0) (.slice none 0 0)
      refine ret_rr (g := g4) rfl rfl S1 rfl ⟨RrAns.bad HP.out (by decide), ?_⟩
      exact Below.kp2 BW.out S2 BW.out.size (by simp [G4.out])
    obtain ⟨y0, y1, y2, y3, y4, y5, y6⟩ := op7 X6.out
    go_upto_region 7 with fail
    clear y0 y1 y2 y3 y4 y5 y6
    obtain ⟨w8, hw⟩ : ∃ W, W = we.alloc (.cells #[.int .i64 (k : Int), .int .i64 v.e, .int .i64 v.c, .int .i64 v.i, .int .i64 v.p, .int .i64 v.x, .slice B1 v.fs.length d1, .slice B2 v.is.length d2, .slice none 0 0] 45) := ⟨_, rfl⟩
    have ba := (show Below we.heap.size we w8 by rw [hw]; exact (Below.refl _ _).alloc (Nat.le_refl _) _)
    have X9 : Hid (Blk w8 we.heap.size 45 #[.int .i64 (k : Int), .int .i64 v.e, .int .i64 v.c, .int .i64 v.i, .int .i64 v.p, .int .i64 v.x, .slice B1 v.fs.length d1, .slice B2 v.is.length d2, .slice none 0 0]) := hide (by rw [hw]; exact Blk.new _ _ _)
    rw [← hw]
    obtain ⟨g9, hg⟩ : ∃ g, g = we.heap.size := ⟨_, rfl⟩
    have G9 := hide (show w.heap.size ≤ g9 ∧ g4 ≠ g9 by
      have := X4.out.lt
      have := BW.out.size
      omega)
    rw [← hg] at X9 ⊢
    replace X2 := hide (X2.out.below ba)
    replace X4 := hide (X4.out.below ba)
    replace X6 := hide (X6.out.below ba)
    replace HO := hide (HO.out.below ba)
    replace HI := hide (RwAt.below HI.out ba)
    replace BW := hide (BW.out.trans (ba.mono BW.out.size))
    clear hw hg ba
    have hnk : k + n ≤ N := by omega
    clear hlong
    go_wp2_with fail
    go_loopw [10] (fun y wr => ∃ (i j : Nat) (A : Option Addr) (c : Nat), i = j + 2 ∧ i ≤ n ∧ y = .int .i64 (i : Int) ∧ Blk wr g9 45 #[.int .i64 (k : Int), .int .i64 v.e, .int .i64 v.c, .int .i64 v.i, .int .i64 v.p, .int .i64 v.x, .slice B1 v.fs.length d1, .slice B2 v.is.length d2, .slice A j c] ∧ Blk wr g4 45 zeroC ∧ OwnS wr w.heap.size A j c (rdB D (k + 2) j) ∧ Kt [45, 9] w.heap.size w8 wr) (fun y _ => n - (intOf y).toNat)
    case atStart => exact ⟨2, 0, none, 0, rfl, HVN.out.2.1, rfl, X9.out, X4.out, World.ownsRow_nil _ _ _ _, Kt.refl _ _ _⟩
    case round =>
      obtain ⟨i, j, A, c, hij, hj, rfl, hX, hX4, hR, hK⟩ := hrel
      have HIJ := hide hij
      clear hij
      clear X9 X4
      have X9 := hide hX
      have X4 := hide hX4
      have KT := hide hK
      have O := hide hR
      clear hX hX4 hK hR
      have Y6 := hide (X6.out.kt KT.out (by decide))
      have Y2 := hide (X2.out.kt KT.out (by decide))
      have BR := hide (BW.out.trans (KT.out.below BW.out.size))
      have HO2 := hide (HO.out.kt KT.out (by decide) (by decide))
      have SX := SB.out _ HO2.out
      obtain ⟨y0, y1, y2, y3, y4, y5, y6⟩ := op7 Y6.out
      go_wp2_with fail
      clear y0 y1 y2 y3 y4 y5 y6
      refine SX.mono ?_
      rintro r w10 ⟨rfl, hb⟩
      replace X9 := hide (X9.out.below hb)
      replace X4 := hide (X4.out.below hb)
      replace Y2 := hide (Y2.out.below hb)
      replace O := hide (own_bel O.out hb)
      replace KT := hide (KT.out.trans (Kt.of_below hb))
      replace BR := hide (BR.out.trans (hb.mono BR.out.size))
      clear hb SX HO2 Y6
      by_cases hlt : i < n
      · have hlts : (i : Int) < (n : Int) := by omega
        obtain ⟨q, hq⟩ : ∃ q, q = k + 2 + j := ⟨_, rfl⟩
        have HQ := hide hq
        have hadd : IntKind.i64.wrap ((k : Int) + (i : Int)) = (q : Int) := by have := HIJ.out; rw [IntKind.wrap_i64]; omega
        have hj100 : j ≤ 1000 := by have := HIJ.out; omega
        have RX := hide (show ∀ W, Below w.heap.size w W → Calls Tryd.prog 25 #[.agg #[.slice As N cs, .slice Aq M cq, .int .i64 (D.steps : Int), .int .i64 D.left], .int .i64 (q : Int)] W fun e w' => e = .returned (.string (txt (D.read q))) ∧ Below W.heap.size W w' from fun W hW => RC.out W hW q (by have := HIJ.out; omega))
        clear hq
        obtain ⟨tx, htx⟩ : ∃ t, t = txt (D.read q) := ⟨_, rfl⟩
        rw [← htx] at RX
        have HTX := hide htx
        clear htx
        go_upto_region 10 with fail
        have hcc := And.intro (op9S X9.out).2.2.2.2.2.2.2.2 (op4S Y2.out)
        refine wp_region_noPanic ?_
        refine wp_region_last (n := 10) (S := (fun w' => w'.cell? ⟨g9, 8, none⟩ = some (.slice A j c) ∧ w'.cell? ⟨g2, 0, none⟩ = some (.slice As N cs) ∧ w'.cell? ⟨g2, 1, none⟩ = some (.slice Aq M cq) ∧ w'.cell? ⟨g2, 2, none⟩ = some (.int .i64 (D.steps : Int)) ∧ w'.cell? ⟨g2, 3, none⟩ = some (.int .i64 D.left))) (by kernel_rfl) (by rfl) (by kernel_rfl) ?_ (fun hHeld => ?_)
        · ((try dsimp only) <;> (first | trivial | assumption | go_keep))
        clear hcc
        replace X9 := hide X9.out.drew
        replace X4 := hide X4.out.drew
        replace Y2 := hide Y2.out.drew
        replace O := hide (own_bel O.out (Below.refl _ _).drew)
        replace KT := hide (KT.out.trans (Kt.of_below (Below.refl _ _).drew))
        replace BR := hide BR.out.drew
        generalize w10.drew = w11 at *
        refine tk 0 ?_
        refine tk 1 ?_
        refine tk 2 ?_
        refine tk 3 ?_
        refine tk 4 ?_
        refine tk 5 ?_
        have R3 := RX.out _ BR.out
        refine wpAnyH_ready (rs := [6]) (by kernel_rfl) (by simp) ?_
        refine AllReadyH.cons (by simp only [List.getElem?_toArray, List.getElem?_cons_succ, List.getElem?_cons_zero]; rfl) (fun K hK => ?_) ?_
        rotate_left 1
        · exact AllReadyH.nil
        go_simp
        refine R3.mono ?_; rintro r w12 ⟨rfl, hb⟩; replace X9 := hide (X9.out.below hb); replace X4 := hide (X4.out.below hb); replace Y2 := hide (Y2.out.below hb); replace O := hide (own_bel O.out hb); replace KT := hide (KT.out.trans (Kt.of_below hb)); replace BR := hide (BR.out.trans (hb.mono BR.out.size)); have hcc := And.intro (op9S X9.out).2.2.2.2.2.2.2.2 (op4S Y2.out); clear hb
        refine hK.out _ _ ?_ (fun hHeld2 => ?_)
        · ((try dsimp only) <;> (first | trivial | assumption | go_keep))
        clear hHeld
        have hHeld := hHeld2
        clear hHeld2 hK K
        try simp only [Act.put, List.setIfInBounds_toArray, List.set_cons_zero, List.set_cons_succ]
        clear hHeld R3 hadd RX
        have hHeld := hcc
        clear hcc
        refine wpAnyH_ready (rs := [7]) (by kernel_rfl) (by simp) ?_
        refine AllReadyH.cons (by simp only [List.getElem?_toArray, List.getElem?_cons_succ, List.getElem?_cons_zero]; rfl) (fun K hK => ?_) ?_
        rotate_left 1
        · exact AllReadyH.nil
        go_simp
        refine hK.out _ _ ?_ (fun hHeld2 => ?_)
        · ((try dsimp only) <;> (first | trivial | assumption | go_keep))
        clear hHeld
        have hHeld := hHeld2
        clear hHeld2 hK K
        try simp only [Act.put, List.setIfInBounds_toArray, List.set_cons_zero, List.set_cons_succ]
        have SL := hide (sl_newS w12 [.string tx] 9)
        have hb := (Below.refl w12.heap.size w12).alloc (Nat.le_refl _) (.cells #[.string tx] 9)
        obtain ⟨w13, hw⟩ : ∃ W, W = w12.alloc (.cells #[.string tx] 9) := ⟨_, rfl⟩
        simp only [List.length_singleton] at SL
        rw [show ([Value.string tx] : List Value).toArray = #[.string tx] from rfl, ← hw] at SL
        rw [← hw] at hb ⊢
        clear hw hHeld
        obtain ⟨g12, hg⟩ : ∃ g, g = w12.heap.size := ⟨_, rfl⟩
        rw [← hg] at SL ⊢
        replace X9 := hide (X9.out.below hb)
        replace X4 := hide (X4.out.below hb)
        replace Y2 := hide (Y2.out.below hb)
        replace O := hide (own_bel O.out hb)
        replace KT := hide (KT.out.trans (Kt.of_below hb))
        replace BR := hide (BR.out.trans (hb.mono BR.out.size))
        clear hb hg
        have hHeld := And.intro (op9S X9.out).2.2.2.2.2.2.2.2 (op4S Y2.out)
        have OX := O.out
        refine wpAnyH_ready (rs := [8]) (by kernel_rfl) (by simp) ?_
        refine AllReadyH.cons (by simp only [List.getElem?_toArray, List.getElem?_cons_succ, List.getElem?_cons_zero]; rfl) (fun K hK => ?_) ?_
        rotate_left 1
        · exact AllReadyH.nil
        refine step_app (by rfl) (.tmp 59) (.tmp 65) _ (by rfl) etyStr w.heap.size (.slice A j c) j _ (by rfl) OX (g12 + 1) (some ⟨g12, 0, none⟩) 1 1 [.string tx] (by rfl) SL.out (by simp [Value.oneCell']) (by omega) BR.out.size ?_; intro A3 c3 w14 ho hg ha; have K14 := hide (Kt.gr (base := w.heap.size) (T := [45, 9]) hg (fun g e => by obtain ⟨h1, cs, h2⟩ := own_blkO OX e; exact ⟨h1, _, cs, h2, by simp⟩)); have X9' := hide (blk_grT X9.out OX (by decide) hg); have X4' := hide (blk_grT X4.out OX (by decide) hg); have Y2' := hide (blk_grT Y2.out OX (by decide) hg); have O3 := hide ho; have hcc := And.intro (show w14.cell? ⟨g9, 8, none⟩ = some (.slice A j c) from X9'.out.cell 8) (op4S Y2'.out); clear ho hg ha
        refine hK.out _ _ ?_ (fun hHeld2 => ?_)
        · ((try dsimp only) <;> (exact hcc))
        clear hHeld
        have hHeld := hHeld2
        clear hHeld2 hK K
        try simp only [Act.put, List.setIfInBounds_toArray, List.set_cons_zero, List.set_cons_succ]
        clear hHeld
        have hHeld := hcc
        clear hcc OX
        refine tk 9 ?_
        have z8 := X9'.out.frozen 8
        have y8 := X9'.out.cell 8
        simp only [List.getElem?_toArray, List.getElem?_cons_succ, List.getElem?_cons_zero] at y8
        refine wpAnyH_done (by kernel_rfl) ?_ _
        refine LastQ.step (by simp only [List.getElem?_toArray, List.getElem?_cons_succ, List.getElem?_cons_zero]; rfl) (by rfl) ?_
        go_simp
        refine NoPanic.normal ?_
        clear z8 y8 hHeld
        obtain ⟨j1, hj1⟩ : ∃ j1, j1 = j + 1 := ⟨_, rfl⟩
        have KF := K14.out.set (p := ⟨g9, 8, none⟩) (.inl ⟨G9.out.1, fun t cs hB => by simp [(Blk.type hB X9.out).1]⟩) (.slice A3 (j + 1) c3)
        have XF := X9'.out.set 8 (.slice A3 (j + 1) c3)
        simp only [List.setIfInBounds_toArray, List.set_cons_zero, List.set_cons_succ] at XF
        have XF4 := X4'.out.far (p := ⟨g9, 8, none⟩) G9.out.2 (.slice A3 (j + 1) c3)
        have OF := own_ktR O3.out ((Kt.refl [45] w.heap.size w14).set (p := ⟨g9, 8, none⟩) (.inl ⟨G9.out.1, fun t cs hB => by simp [(Blk.type hB X9'.out).1]⟩) (.slice A3 (j + 1) c3)) (by decide)
        generalize w14.setCell ⟨g9, 8, none⟩ (.slice A3 (j + 1) c3) = w15 at *
        have HF := hide (And.intro XF (And.intro XF4 (And.intro OF (KT.out.trans KF))))
        have HJ1 := hide hj1
        clear KF XF XF4 OF hj1
        go_wp2_with fail
        go_roundw
        case rel =>
          obtain ⟨f1, f2, f3, f4⟩ := HF.out
          refine ⟨i + 1, j + 1, A3, c3, by rw [HIJ.out], by omega, by go_num, f1, f2, ?_, f4⟩
          rw [rdB_succ, ← HQ.out, OwnS, strC_snoc, ← HTX.out]
          exact f3
        case measure => simp [intOf]; omega
      · have hlts : ¬ (i : Int) < (n : Int) := by omega
        have HJN := hide (show j = v.n - 2 by have := HIJ.out; have := HVN.out; omega)
        have PT := hide (rsum15 w10 A j c w10.heap.size (rdB D (k + 2) j) (Sl.of_own O.out) (Nat.le_refl _) (fun b hb => by
          simp only [rdB, List.mem_map, List.mem_range] at hb
          obtain ⟨x, hx, rfl⟩ := hb
          have := read_lenG H.out.ok (i := k + 2 + x) (by have := HN.out.1; have := HIJ.out; omega)
          omega) (by have := HIJ.out; omega))
        obtain ⟨cr, hcr⟩ : ∃ cr, cr = crc (rdB D (k + 2) j).flatten := ⟨_, rfl⟩
        have HCR := hide hcr
        rw [← hcr] at PT
        clear hcr
        have y8 := X9.out.cell 8
        simp only [List.getElem?_toArray, List.getElem?_cons_succ, List.getElem?_cons_zero] at y8
        go_wp2_with fail
        refine PT.out.mono ?_
        rintro r w9 ⟨rfl, hb⟩
        replace X9 := hide (X9.out.below hb)
        replace X4 := hide (X4.out.below hb)
        replace O := hide (own_bel O.out hb)
        replace KT := hide (KT.out.trans (Kt.of_below hb))
        replace BR := hide (BR.out.trans (hb.mono BR.out.size))
        clear PT y8 hb
        by_cases hcs : cr = s
        rotate_left
        · have hne : ((cr : Int) != (s : Int)) = true := bne_iff_ne.2 (by omega)
          have HP := hide (rdS_sum (D := D) (a := k) (v := v) (s := s) (by have := HN.out.1; omega) hD.out (by have := HN.out.1; have := HVN.out.1; omega) (by rw [← HJN.out, ← HCR.out]; exact hcs))
          obtain ⟨y0, y1, y2, y3, y4, y5, y6, y7, y8⟩ := op9z X4.out
          have z := X4.out.frozen
          go_wp2_with fail
          clear y0 y1 y2 y3 y4 y5 y6 y7 y8 z
          obtain ⟨S1, S2⟩ := set9 X4.out (.int .i64 0) (.int .i64 0) (.int .i64 0) (.int .i64 0) (.int .i64 0) (.int .i64 0) (.slice none 0 0) (.slice none 0 0) (.slice none 0 0)
          refine ret_rr (g := g4) rfl rfl S1 rfl ⟨RrAns.bad HP.out (by decide), ?_⟩
          exact Below.kp2 BR.out S2 BR.out.size (by simp [G4.out])
        · have hne : ((cr : Int) != (s : Int)) = false := by simp [hcs]
          have HP := hide (rdS_ok (D := D) (a := k) (v := v) (s := s) (by have := HN.out.1; omega) hD.out (by have := HN.out.1; have := HVN.out.1; omega) (by rw [← HJN.out, ← HCR.out]; exact hcs))
          rw [← HJN.out] at HP
          clear hcs
          obtain ⟨y0, y1, y2, y3, y4, y5, y6, y7, y8⟩ := op9z X4.out
          have z := X4.out.frozen
          obtain ⟨x0, x1, x2, x3, x4, x5, x6, x7, x8⟩ := op9S X9.out
          go_wp2_with fail
          clear y0 y1 y2 y3 y4 y5 y6 y7 y8 z x0 x1 x2 x3 x4 x5 x6 x7 x8
          obtain ⟨S1, S2⟩ := set9 X4.out (.int .i64 (k : Int)) (.int .i64 v.e) (.int .i64 v.c) (.int .i64 v.i) (.int .i64 v.p) (.int .i64 v.x) (.slice B1 v.fs.length d1) (.slice B2 v.is.length d2) (.slice A j c)
          refine ret_rr (g := g4) rfl rfl S1 rfl ⟨⟨B1, d1, B2, d2, A, c, ?_, ?_⟩, Below.kp2 BR.out S2 BR.out.size (by simp [G4.out])⟩
          · rw [HP.out, if_pos rfl]
            dsimp only
            rw [rdB_len]
            rfl
          · have K4 := kt_box S2 X4.out (base := w.heap.size) G4.out.1
            have KA := KT.out.trans (K4.more [45, 9] (by simp))
            rw [HP.out]
            refine ⟨HO.out.kt KA (by decide) (by decide), RwAt.kt HI.out KA (by decide), ?_⟩
            dsimp only
            rw [rdB_len]
            exact own_ktR O.out K4 (by decide)
end Go.Proofs.YtlobkefacnedeaaDoor

/- Pieces, and lists of blocks, as arguments. -/
namespace Go.Proofs.YtlobkefacnedeaaDoor
open Go.RowKit
set_option maxRecDepth 100000

set_option maxRecDepth 100000 in
theorem pieces_rd {w : World} {v : Value} {k : Nat} (h : Rd Tryd.prog w (k + 7) 48 [v]) : ∃ A m c ps, v = .slice A m c ∧ m ≤ 9223372036854775807 ∧ PcsAt w A m ps := by
  obtain ⟨A, n, c, rows, rfl, hl, hm, hs, hr⟩ := slk_of_rd (n := k + 6) (k := 9) Tryd.underlying48 (by kernel_rfl) h
  obtain ⟨ps, hpl, hps⟩ := list_of (Q := fun j (p : Int × PV × List UInt8) => ∃ A1 n1 c1 A2 n2 c2 A3 m3 c3, PcA w ((rows[j]?).getD []) p.1 p.2.1 A1 n1 c1 A2 n2 c2 A3 m3 c3 p.2.2) n (fun j hj => by
    have hjr : j < rows.length := by rw [hs.len]; exact hj
    have hg : rows[j]? = some (rows[j]'hjr) := List.getElem?_eq_getElem hjr
    obtain ⟨a, v, A1, n1, c1, A2, n2, c2, A3, m, c3, data, hp⟩ := piece_rd (k := k) (hr _ (List.getElem_mem hjr))
    exact ⟨(a, v, data), A1, n1, c1, A2, n2, c2, A3, m, c3, by rw [hg]; exact hp⟩)
  refine ⟨A, n, c, ps, rfl, by omega, hpl, fun j p hp => ?_⟩
  obtain ⟨hj, e⟩ := List.getElem?_eq_some_iff.1 hp
  obtain ⟨A1, n1, c1, A2, n2, c2, A3, m3, c3, hq⟩ := hps j hj
  rw [e] at hq
  obtain ⟨b, off, rfl, hlt, hcell⟩ := hs.at (by omega) (by decide)
  have hjr : j < rows.length := by rw [hs.len]; omega
  have hg : rows[j]? = some (rows[j]'hjr) := List.getElem?_eq_getElem hjr
  rw [hg] at hq
  refine ⟨b, off, A1, n1, c1, A2, n2, c2, A3, m3, c3, rfl, ⟨hlt, fun t u hu => ?_, hq.a64, hq.f, hq.i, hq.d, hq.hc, hq.h1, hq.h2, hq.h3, hq.hl⟩⟩
  refine hcell j hjr t u ?_
  have he := hq.e
  simp only [Option.getD_some] at he
  rw [he]
  simpa using hu
theorem rw_of_sl {w : World} {A : Option Addr} {n : Nat} {t : TypeId} {xs : List Value} (h : Sl w w.heap.size A n xs) : RwAt 0 w.heap.size t 1 w A n xs :=
  ⟨by rw [h.1]; omega, fun j u hu => by
    have h0 : 0 < xs.length := by have := (List.getElem?_eq_some_iff.1 hu).1; omega
    obtain ⟨⟨b, off, spot⟩, rfl, hb, hc⟩ := h.2 0 _ (List.getElem?_eq_getElem h0)
    have hsp : spot = none := by
      have := World.cell?_spot hc
      simpa [Addr.add] using this
    subst hsp
    obtain ⟨_, e, -, hc⟩ := h.2 j u hu
    cases e
    rw [Addr.add_mid] at hc
    exact ⟨b, off, rfl, ⟨Nat.zero_le _, hb, .inl hb⟩, hc⟩⟩
theorem bs_of_rows {w : World} {A : Option Addr} {m : Nat} {rs : List RowB} (h : Sl w w.heap.size A m (rs.map RowB.v)) (hr : ∀ r ∈ rs, By w w.heap.size r.a r.n r.l ∧ r.n ≤ r.c ∧ r.c ≤ 9223372036854775807) : BsAt w.heap.size w A m (rs.map RowB.l) := by
  have hl : rs.length = m := by have := h.1; simpa using this
  refine ⟨rs.map RowB.v, by simpa using hl, by simpa using hl, rw_of_sl h, fun j x b hx hb => ?_⟩
  rw [List.getElem?_map] at hx hb
  obtain ⟨r, hr1, rfl⟩ := Option.map_eq_some_iff.1 hx
  obtain ⟨r', hr2, rfl⟩ := Option.map_eq_some_iff.1 hb
  rw [hr1] at hr2
  injection hr2 with hr2
  subst hr2
  obtain ⟨h1, h2, -⟩ := hr r (List.mem_of_getElem? hr1)
  have e : r.l.length = r.n := by have := h1.1; simpa [u8s] using this
  exact ⟨r.a, r.c, by rw [e]; rfl, by omega, by rw [e]; exact rw_of_sl h1⟩
theorem BsAt.baseW {base base' m : Nat} {w : World} {A : Option Addr} {bs : List (List UInt8)} (h : BsAt base w A m bs) (hb : base ≤ base') : BsAt base' w A m bs := by
  obtain ⟨cs, e1, e2, hr, hx⟩ := h
  refine ⟨cs, e1, e2, hr.base_ hb, fun j x b h1 h2 => ?_⟩
  obtain ⟨B, c, e, hc, hB⟩ := hx j x b h1 h2
  exact ⟨B, c, e, hc, RwAt.base_ hB hb⟩
theorem rdS_pv {D : Dsk} {a : Int} (h : (rdS D a).1 ≠ 0) : (rdS D a).2 = (pv0, []) := by
  revert h
  unfold rdS
  split
  · intro _; rfl
  · split
    · intro _; rfl
    · split
      · intro _; rfl
      · split
        · intro h; exact absurd rfl h
        · intro _; rfl
theorem rdS_bd (D : Dsk) (a : Int) : (rdS D a).2.1.fs.length ≤ 1000 ∧ (rdS D a).2.1.is.length ≤ 1000 ∧ (∀ f ∈ (rdS D a).2.1.fs, f.ls.length ≤ 1000000) ∧ (rdS D a).2.2.length ≤ 1000 := by
  by_cases h : (rdS D a).1 = 0
  · obtain ⟨k, s, -, -, hE, hb, -⟩ := rdS_inv (D := D) (a := a) (v := (rdS D a).2.1) (bs := (rdS D a).2.2) (by rw [← h])
    obtain ⟨h1, h2, h3, -⟩ := PV.bd hE.1
    have := PV.n_bd hE.1
    refine ⟨by omega, by omega, fun f hf => by have := lsN_all h3 f hf; omega, ?_⟩
    rw [hb, rdB_len]
    omega
  · rw [rdS_pv h]
    exact ⟨by decide, by decide, (by intro f hf; cases hf), by decide⟩
end Go.Proofs.YtlobkefacnedeaaDoor
