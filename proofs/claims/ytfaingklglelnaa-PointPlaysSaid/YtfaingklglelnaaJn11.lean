import Derived.Test.YtfaingklglelnaaJn09
import Derived.Test.YtfaingklglelnaaJn06
import Derived.Deep.DeepCutAuto
import Derived.Test.YtfaingklglelnaaJn10
/- The walks over marlref03.Four, marlref17.Encode. -/
namespace Go.Proofs.Ytfaingklglelnaa
open Go.RowKit
attribute [local go_sem ↓] Go.wp_at_zero Go.wp_at_succ

theorem u8s_le4 (c : Nat) : u8s (leN c 4) = [.int .u8 ((c % 256 : Nat) : Int), .int .u8 ((c / 256 % 256 : Nat) : Int), .int .u8 ((c / 65536 % 256 : Nat) : Int), .int .u8 ((c / 16777216 % 256 : Nat) : Int)] := by
  simp [leN, List.range_succ, u8s, UInt8.toNat_ofNat']
theorem own_bytesP {w : World} {base n : Nat} {l : List UInt8} (cur : Array Value) (h : cur.toList = u8s l) (hb : base ≤ w.heap.size) (hn : l.length = n) (hm : n ≤ 9223372036854775807) :
    OwnBy (w.alloc (.cells cur 5)) base (some ⟨w.heap.size, 0, none⟩) n n l := by
  have hc : cur.size = n := by rw [← Array.length_toList, h, u8s_length, hn]
  have := own_built (w := w) (e := 5) cur hb hc hm
  rw [h] at this
  exact this
theorem rfourP (n : Nat) (w : World) (hn : n ≤ 1099511627776) :
    Calls Try.prog 39 #[.int .i64 n] w fun e w' => ∃ A' c', e = .returned (.slice A' 4 c') ∧ OwnBy w' w.heap.size A' 4 c' (leN n 4) ∧ Below w.heap.size w w' := by
  go_enter Try.func39, Try.ntmps39
  go_wp2
  go_ret
  refine ⟨_, _, rfl, own_bytesP _ ?_ (Nat.le_refl _) (leN_length _ _) (by omega), (Below.refl _ _).alloc (Nat.le_refl _) _⟩
  rw [u8s_le4]
  simp
theorem le_take2 (n : Nat) : (leN n 4).take 2 = leN n 2 := by simp [leN, List.range_succ]
theorem own_capQ {w : World} {base n c : Nat} {A : Option Addr} {l : List UInt8} (h : OwnBy w base A n c l) : n ≤ c := by
  obtain ⟨_, _, e, h1, _⟩ := own_form h
  injection e with e1 e2 e3
  omega
/-- The first two bytes of a number's four. -/
theorem four_cut {w : World} {base n c : Nat} {A : Option Addr} (h : OwnBy w base A 4 c (leN n 4)) : OwnBy w base A 2 c (leN n 2) := by
  have := own_head h (k := 2) (by omega)
  rw [u8s_take, le_take2] at this
  exact this
theorem run_two {w : World} {c : Nat} {A : Option Addr} (h : 4 ≤ c) : (Instr.slice 24 (.slice A 4 c) none (some (.int .i64 2)) none).run Try.prog w = .ok (.slice A 2 c) w := run_cut_h (P := Try.prog) etyB A 4 c w 2 .i64 (by omega)
theorem one_u8P (w : World) (x : Int) (b : UInt8) (hx : x = (b.toNat : Int)) : By (w.alloc (.cells #[.int .u8 x] 5)) (w.heap.size + 1) (some ⟨w.heap.size, 0, none⟩) 1 [b] := by
  subst hx
  have := (own_bytesP (w := w) (base := 0) (n := 1) (l := [b]) #[.int .u8 (b.toNat : Int)] rfl (Nat.zero_le _) rfl (by omega)).by
  simpa using this
def slLenP : Value → Nat
  | .slice _ n _ => n
  | _ => 0
theorem run_el {w : World} {c k : Nat} {A : Option Addr} (hk : k < 4) (hc : 44 ≤ c) : (Instr.slice 24 (.slice A 44 c) (some (.int .i64 (11 * (k : Int)))) (some (.int .i64 (11 * (k : Int) + 11))) none).run Try.prog w = .ok (.slice (cutA A c (11 * k)) 11 (c - 11 * k)) w := by
  have := run_cut_lh (P := Try.prog) etyB A 44 c w (11 * k) (11 * k + 11) .i64 .i64 (by omega) (by omega)
  rw [show 11 * k + 11 - 11 * k = 11 by omega] at this
  have e1 : (11 * (k : Int)) = ((11 * k : Nat) : Int) := by omega
  have e2 : (11 * (k : Int) + 11) = ((11 * k + 11 : Nat) : Int) := by omega
  rw [e2, e1]
  exact this
theorem own_el {w : World} {B c k : Nat} {A : Option Addr} {l : List UInt8} (h : By w B A 44 l) (hk : k < 4) (hc : 44 ≤ c) : By w B (cutA A c (11 * k)) 11 ((l.drop (11 * k)).take 11) := by
  have h1 := h.tail (k := 11 * k) (c := c) (by omega) (by omega)
  have h2 := h1.head (k := 11) (by omega)
  rw [u8s_drop, u8s_take] at h2
  exact h2

section
variable {ops : Array Oper} {Q : Exit → Act → World → Prop} {C : List CO} {w0 : World} {base : Nat} {a0 : Act} {x : CO} {o : Oper}
/-- [:2] of a row of four. -/
theorem step_two (ho : ops[x.i]? = some o) (hg : Want ops C a0 o) (hd : o.dst = some x.d) (s : Tmp) (hop : o.op = .slice 24 (.tmp s) none (some (.const (.int .i64 2))) none)
    (k : CO) (hk : k ∈ C) (hkd : k.d = s) (hkr : k.i ∈ x.reads) (hke : k.i ∈ x.eat) (n : Nat) (hkF : k.F = RowF 5 base (u8s (leN n 4))) (hF : x.F = RowF 5 base (u8s (leN n 2))) : x.Step Try.prog ops Q C w0 base a0 := by
  refine CO.step_run_w ho hg hd fun a w e1 e2 e3 e4 e5 => ?_
  have h := e4 k hk hkr
  rw [hkF, hkd] at h
  obtain ⟨A, m, c, hv, hown⟩ := h
  have hm : m = 4 := by have := hown.1; rw [u8s_length, leN_length] at this; omega
  subst hm
  have hv' : a.eval (.tmp s) = .slice A 4 c := hv
  have hr := run_two (w := w) (A := A) (own_capQ hown)
  refine ⟨.slice A 2 c, w, none, ?_, by rw [hF]; exact ⟨A, 2, c, rfl, four_cut hown⟩, ⟨rfl, rfl, rfl, Nat.le_refl _, fun _ _ _ => rfl⟩, by simp, fun g hg => .inr ⟨k, hk, hke, ?_⟩⟩
  · have hr' : (Instr.sliceAt 24 (.slice A 4 c) none (some (.int .i64 2)) none).run Try.prog w = .ok (.slice A 2 c) w := by simpa [Instr.sliceAt] using hr
    unfold execOp
    simp only [hop, Sem.run_bind, Sem.run_pure, Result.andThen_ok, Option.map_some, Option.map_none, Act.eval, hv, hr']
  · rw [hkd, hv]
    have h1 : (Value.slice A 4 c).ownBlock = some g := by have := ownBlock_vbs.2 hg; rw [← this]; cases A <;> rfl
    exact ownBlock_vbs.1 h1
theorem step_four (ho : ops[x.i]? = some o) (hg : Want ops C a0 o) (hd : o.dst = some x.d) (s : Tmp) (ts : Array TypeId) (hop : o.op = .call { callee := .value (.func 39), args := #[.tmp s], argTypes := ts })
    (hs : ∀ y ∈ C, y.d ≠ s) (n : Nat) (hn : n ≤ 1099511627776) (ha : a0.tmps.getD s undef = .int .i64 (n : Int)) (hF : x.F = RowF 5 base (u8s (leN n 4))) : x.Step Try.prog ops Q C w0 base a0 :=
  CO.step_call ho hg hd Try.func39 (by kernel_rfl) (by rfl) _ _ hop (fun a w' e1 e2 e3 e4 => by
    have hv : a.eval (.tmp s) = .int .i64 (n : Int) := (e3 s hs).trans ha
    simp only [List.map_toArray, List.map_cons, List.map_nil, hv]
    refine (rfourP n w' hn).mono ?_
    rintro r w3 ⟨A, c, rfl, hown, hb⟩
    exact ⟨_, rfl, by rw [hF]; exact ⟨A, 4, c, rfl, own_base hown e2⟩, hb, fun g hg => (hown.lt g (ownBlock_vbs.2 hg)).1⟩)
end

set_option maxRecDepth 100000 in
set_option maxHeartbeats 8000000 in
theorem renc17 (e c n f : Nat) (w : World) (h : PtP e c n f) :
    Calls Try.prog 15 #[ptV e c n f] w fun r w' => r = .returned (.string (txt (ptBytes e c n f))) ∧ Below w.heap.size w w' := by
  have hbd : e < 65536 ∧ c < 65536 ∧ n < 4096 ∧ f < 4096 := by unfold PtP at h; omega
  obtain ⟨he, hc, hn, hf⟩ := hbd
  clear h
  go_enter Try.func15, Try.ntmps15
  go_upto_region 1 with fail
  have K1 := hide (Blk.new w 30 #[.int .i64 (e : Int), .int .i64 (c : Int), .int .i64 (n : Int), .int .i64 (f : Int)])
  have B1 := hide ((Below.refl w.heap.size w).alloc (Nat.le_refl _) (.cells #[.int .i64 (e : Int), .int .i64 (c : Int), .int .i64 (n : Int), .int .i64 (f : Int)] 30))
  generalize w.alloc _ = w1 at *
  have CC := hide (fun (w' : World) (hb : Below w1.heap.size w1 w') => show w'.cell? ⟨w.heap.size, 2, none⟩ = some (.int .i64 (n : Int)) ∧ w'.cell? ⟨w.heap.size, 3, none⟩ = some (.int .i64 (f : Int)) from ⟨(K1.out.below hb).cell 2, (K1.out.below hb).cell 3⟩)
  have s0 := CC.out _ (Below.refl _ _).drew
  refine wp_region_noPanic ?_
  refine wp_region_held_drew (S := (fun w' => w'.cell? ⟨w.heap.size, 2, none⟩ = some (.int .i64 (n : Int)) ∧ w'.cell? ⟨w.heap.size, 3, none⟩ = some (.int .i64 (f : Int)))) (by kernel_rfl) ?_ (fun hHeld => ?_)
  · ((try dsimp only) <;> (first | trivial | assumption | go_keep))
  clear s0
  have BW := hide ((Below.refl w1.heap.size w1).drew)
  have ws : Hid (w1.heap.size ≤ w1.drew.heap.size) := hide (Nat.le_refl _)
  generalize w1.drew = w2 at *
  refine wpAnyH_take (i := 0) (v := ?_) (by simp only [List.getElem?_toArray, List.getElem?_cons_succ, List.getElem?_cons_zero]; rfl) (by kernel_rfl) (by kernel_rfl) (by kernel_rfl) (fun _ _ _ h => h) (Or.inl ⟨by rfl, ?_⟩) (by assumption) ?_
  rotate_left 1
  · (intro w hSw; (try dsimp only at hSw); go_simp; try with_reducible rfl)
  try simp only [Act.put, List.setIfInBounds_toArray, List.set_cons_zero, List.set_cons_succ]
  refine wpAnyH_take (i := 1) (v := ?_) (by simp only [List.getElem?_toArray, List.getElem?_cons_succ, List.getElem?_cons_zero]; rfl) (by kernel_rfl) (by kernel_rfl) (by kernel_rfl) (fun _ _ _ h => h) (Or.inl ⟨by rfl, ?_⟩) (by assumption) ?_
  rotate_left 1
  · (intro w hSw; (try dsimp only at hSw); go_simp; try with_reducible rfl)
  try simp only [Act.put, List.setIfInBounds_toArray, List.set_cons_zero, List.set_cons_succ]
  refine wpAnyH_take (i := 4) (v := ?_) (by simp only [List.getElem?_toArray, List.getElem?_cons_succ, List.getElem?_cons_zero]; rfl) (by kernel_rfl) (by kernel_rfl) (by kernel_rfl) (fun _ _ _ h => h) (Or.inl ⟨by rfl, ?_⟩) (by assumption) ?_
  rotate_left 1
  · (intro w hSw; (try dsimp only at hSw); go_simp; try with_reducible rfl)
  try simp only [Act.put, List.setIfInBounds_toArray, List.set_cons_zero, List.set_cons_succ]
  refine wpAnyH_take (i := 5) (v := ?_) (by simp only [List.getElem?_toArray, List.getElem?_cons_succ, List.getElem?_cons_zero]; rfl) (by kernel_rfl) (by kernel_rfl) (by kernel_rfl) (fun _ _ _ h => h) (Or.inl ⟨by rfl, ?_⟩) (by assumption) ?_
  rotate_left 1
  · (intro w hSw; (try dsimp only at hSw); go_simp; try with_reducible rfl)
  try simp only [Act.put, List.setIfInBounds_toArray, List.set_cons_zero, List.set_cons_succ]
  refine region_rows (fuel := 2) (w0 := w2) (base := w2.heap.size) (stop := 8) (C := [⟨2, 8, [], [], RowF 5 w2.heap.size (u8s (leN n 4))⟩, ⟨3, 9, [2], [2], RowF 5 w2.heap.size (u8s (leN n 2))⟩, ⟨6, 12, [], [], RowF 5 w2.heap.size (u8s (leN f 4))⟩, ⟨7, 13, [6], [6], RowF 5 w2.heap.size (u8s (leN f 2))⟩])
    (ok_of_cd (by kernel_rfl)) ?hok ?hst ?hS (Below.refl _ _) (Nat.le_refl _) ?hend
  case hok =>
    intro y hy
    simp only [List.mem_cons, List.not_mem_nil, or_false] at hy
    rcases hy with rfl | rfl | rfl | rfl <;> exact rowF_ok _ _ _ _ _ _ _
  case hS =>
    intro w' hb _
    exact CC.out w' (BW.out.trans (hb.mono ws.out))
  case hst =>
    intro y hy
    simp only [List.mem_cons, List.not_mem_nil, or_false] at hy
    rcases hy with rfl | rfl | rfl | rfl
    · exact step_four (by simp only [List.getElem?_toArray, List.getElem?_cons_succ, List.getElem?_cons_zero]; rfl) (want_none (by rfl)) (by rfl) 7 _ (by rfl) (by intro z hz; simp only [List.mem_cons, List.not_mem_nil, or_false] at hz; rcases hz with rfl | rfl | rfl | rfl <;> simp) n (by omega) (by rfl) rfl
    · exact step_two (by simp only [List.getElem?_toArray, List.getElem?_cons_succ, List.getElem?_cons_zero]; rfl) (want_none (by rfl)) (by rfl) 8 (by rfl) ⟨2, 8, [], [], RowF 5 w2.heap.size (u8s (leN n 4))⟩ (by simp) rfl (by simp) (by simp) n rfl rfl
    · exact step_four (by simp only [List.getElem?_toArray, List.getElem?_cons_succ, List.getElem?_cons_zero]; rfl) (want_none (by rfl)) (by rfl) 11 _ (by rfl) (by intro z hz; simp only [List.mem_cons, List.not_mem_nil, or_false] at hz; rcases hz with rfl | rfl | rfl | rfl <;> simp) f (by omega) (by rfl) rfl
    · exact step_two (by simp only [List.getElem?_toArray, List.getElem?_cons_succ, List.getElem?_cons_zero]; rfl) (want_none (by rfl)) (by rfl) 12 (by rfl) ⟨6, 12, [], [], RowF 5 w2.heap.size (u8s (leN f 4))⟩ (by simp) rfl (by simp) (by simp) f rfl rfl
  case hend =>
    intro vals w3 hb3 hs3 hF hap
    have f3 := hF ⟨3, 9, [2], [2], RowF 5 w2.heap.size (u8s (leN n 2))⟩ (by simp) (by simp)
    have f7 := hF ⟨7, 13, [6], [6], RowF 5 w2.heap.size (u8s (leN f 2))⟩ (by simp) (by simp)
    clear hF hap
    obtain ⟨A3, m3, d3, hv3, hown3⟩ := f3
    obtain ⟨A7, m7, d7, hv7, hown7⟩ := f7
    have hm3 : m3 = 2 := by have := hown3.1; rw [u8s_length, leN_length] at this; omega
    have hm7 : m7 = 2 := by have := hown7.1; rw [u8s_length, leN_length] at this; omega
    subst hm3 hm7
    simp only at hv3 hv7
    generalize vals 2 = x2 at *
    generalize vals 6 = x6 at *
    simp only [List.foldl_cons, List.foldl_nil, hv3, hv7]
    clear hv3 hv7
    simp only [Act.put, List.setIfInBounds_toArray, List.set_cons_zero, List.set_cons_succ]
    have B3 := hide (BW.out.trans (hb3.mono ws.out))
    have O3 := hide hown3
    have O7 := hide hown7
    have HS3 := hide hs3
    replace hHeld := CC.out w3 B3.out
    clear hb3 hs3 hown3 hown7
    refine wpAnyH_ready (rs := [8]) (by kernel_rfl) (by simp) ?_
    refine AllReadyH.cons (by simp only [List.getElem?_toArray, List.getElem?_cons_succ, List.getElem?_cons_zero]; rfl) (fun K hK => ?_) ?_
    rotate_left 1
    · exact AllReadyH.nil
    refine step_app (by rfl) (.tmp 9) (.tmp 13) _ (by rfl) etyB w2.heap.size (.slice A3 2 d3) 2 (u8s (leN n 2)) (by rfl) O3.out w3.heap.size A7 2 d7 (u8s (leN f 2)) (by rfl) (OwnBy.by O7.out) (u8s_one _) (by decide) HS3.out ?_; intro A8 d8 w4 hown hg _; rw [← u8s_append] at hown; have O8 := hide hown; have B8 := hide (B3.out.grown hg B3.out.size (fun k hk => Nat.le_trans ws.out (O3.out.lt k hk).1)); clear hown hg
    refine hK.out _ _ ?_ (fun hHeld2 => ?_)
    · ((try dsimp only) <;> (exact CC.out _ B8.out))
    clear hHeld
    have hHeld := hHeld2
    clear hHeld2 hK K
    try simp only [Act.put, List.setIfInBounds_toArray, List.set_cons_zero, List.set_cons_succ]
    refine wpAnyH_take (i := 9) (v := ?_) (by simp only [List.getElem?_toArray, List.getElem?_cons_succ, List.getElem?_cons_zero]; rfl) (by kernel_rfl) (by kernel_rfl) (by kernel_rfl) (fun _ _ _ h => h) (Or.inl ⟨by rfl, ?_⟩) (by assumption) ?_
    rotate_left 1
    · (intro w hSw; (try dsimp only at hSw); go_simp; try with_reducible rfl)
    try simp only [Act.put, List.setIfInBounds_toArray, List.set_cons_zero, List.set_cons_succ]
    refine wpAnyH_done (by kernel_rfl) ?_ _
    refine NoPanic.normal ?_
    clear hHeld
    have O8b := hide (show OwnBy w4 w1.heap.size A8 4 d8 (leN n 2 ++ leN f 2 ++ List.replicate (4 - 4) 0) from by simpa using own_base O8.out ws.out)
    clear O8 O3 O7 HS3 B3 BW
    simp only [Nat.reduceAdd]
    go_wp2_with fail
    go_loopw [3] (fun v wr => ∃ k : Nat, 4 ≤ k ∧ k ≤ 44 ∧ ∃ A d, v = .slice A k d ∧ OwnBy wr w1.heap.size A k d (leN n 2 ++ leN f 2 ++ List.replicate (k - 4) 0) ∧ Below w1.heap.size w1 wr) (fun v _ => 44 - slLenP v)
    case atStart => exact ⟨4, by omega, by omega, A8, d8, rfl, O8b.out, B8.out⟩
    case round =>
      clear O8b B8
      obtain ⟨k, k0, k1, A, d, rfl, hown, hb⟩ := hrel
      have O := hide hown
      have B := hide hb
      have hsz := hb.size
      clear hown hb
      by_cases hlt : k < 44
      · go_wp2_with (
          at_builtin
          refine wpList_app _ rfl (.tmp 18) (.tmp 19) _ rfl etyB w1.heap.size (.slice A k d) k (u8s (leN n 2 ++ leN f 2 ++ List.replicate (k - 4) 0)) rfl (O.out.alloc _) (wr.heap.size + 1) (some ⟨wr.heap.size, 0, none⟩) 1 1 (u8s [0]) rfl
            (one_u8P wr 0 0 rfl) (u8s_one _) (by omega) (by simp; omega) ?_
          intro A9 d9 w9 hown hg _
          rw [← u8s_append] at hown
          have O9 := hide hown
          have B9 := hide ((B.out.alloc hsz _).grown hg (by simp; omega) (fun k hk => (O.out.lt k hk).1))
          clear hown hg)
        go_roundw
        case rel =>
          refine ⟨k + 1, by omega, by omega, A9, d9, rfl, ?_, B9.out⟩
          have := O9.out
          rw [List.append_assoc, show [(0 : UInt8)] = List.replicate 1 0 from rfl, List.replicate_append_replicate, show k - 4 + 1 = k + 1 - 4 by omega] at this
          exact this
        case measure => simp [slLenP]; omega
      · obtain rfl : k = 44 := by omega
        have HW := hide (OwnBy.by (show OwnBy wr w1.heap.size A 44 d (ptW n f) from O.out))
        have hcw := own_capQ O.out
        have HL := hide (ptW_length n f)
        clear O hsz hlt k0 k1
        obtain ⟨W, hW⟩ : ∃ W, W = wr := ⟨_, rfl⟩
        rw [← hW] at HW B ⊢
        clear hW
        go_wp2_with fail
        go_loopw [4, 5] (fun v i wr => ∃ (s : Nat) (A' : Option Addr) (d' : Nat), s ≤ 4 ∧ i = .int .i64 (s : Int) ∧ v = .slice A' (16 * s) d' ∧ OwnBy wr W.heap.size A' (16 * s) d' (ptUp e c n f s) ∧ Below W.heap.size W wr) (fun _ i _ => 4 - (intOf i).toNat)
        case atStart => exact ⟨0, none, 0, by omega, rfl, rfl, World.ownsRow_nil _ _ _ _, Below.refl _ _⟩
        case round =>
          obtain ⟨s, A', d', hs, rfl, rfl, hown, hb⟩ := hrel
          have O := hide hown
          have Z := hide hb
          have hsz := hb.size
          clear hown hb
          have KK := hide (fun (w' : World) (hb : Below W.heap.size W w') => K1.out.below (B.out.trans (hb.mono B.out.size)))
          by_cases hlt : s < 4
          · have hup := hide (ptUp_succ e c n f s)
            obtain ⟨c0, c1, -, -⟩ := ptb4 (KK.out _ Z.out)
            go_wp2_with fail
            refine (rfourP e _ (by omega)).mono ?_
            rintro r w5 ⟨F5, g5, rfl, hf, hb⟩
            have hcut := run_two (w := w5) (A := F5) (own_capQ hf)
            have Hf := hide (four_cut hf).by
            have O5 := hide (own_keep O.out hb)
            have Z5 := hide (Z.out.trans (hb.mono hsz))
            have hz5 := Nat.le_trans hsz hb.size
            clear hf hb c0 c1 O Z
            go_wp2_with (
              at_builtin
              refine wpList_app _ rfl (.tmp 25) (.tmp 29) _ rfl etyB W.heap.size (.slice A' (16 * s) d') (16 * s) (u8s (ptUp e c n f s)) rfl O5.out w5.heap.size F5 2 g5 (u8s (leN e 2)) rfl
                Hf.out (u8s_one _) (by omega) hz5 ?_
              intro A6 d6 w6 hown hg _
              rw [← u8s_append] at hown
              have O6 := hide hown
              have Z6 := hide (Z5.out.grown hg hz5 (fun k hk => (O5.out.lt k hk).1))
              have hz6 := Nat.le_trans hz5 hg.size
              clear hown hg
              obtain ⟨c0, c1, -, -⟩ := ptb4 (KK.out _ Z6.out))
            refine (rfourP c _ (by omega)).mono ?_
            rintro r w7 ⟨F7, g7, rfl, hf, hb⟩
            have hcut7 := run_two (w := w7) (A := F7) (own_capQ hf)
            have Hf7 := hide (four_cut hf).by
            have O7 := hide (own_keep O6.out hb)
            have Z7 := hide (Z6.out.trans (hb.mono hz6))
            have hz7 := Nat.le_trans hz6 hb.size
            clear hf hb c0 c1 O5 Z5 O6 Z6 hz5 hz6 hcut Hf hsz
            go_upto_region 10 with (
              at_builtin
              refine wpList_app _ rfl (.tmp 31) (.tmp 35) _ rfl etyB W.heap.size (.slice A6 (16 * s + 2) d6) (16 * s + 2) (u8s (ptUp e c n f s ++ leN e 2)) rfl O7.out w7.heap.size F7 2 g7 (u8s (leN c 2)) rfl
                Hf7.out (u8s_one _) (by omega) hz7 ?_
              intro A8 d8 w8 hown hg _
              rw [← u8s_append] at hown
              have O8 := hide hown
              have Z8 := hide (Z7.out.grown hg hz7 (fun k hk => (O7.out.lt k hk).1))
              have hz8 := Nat.le_trans hz7 hg.size
              clear hown hg)
            clear O7 Z7 hcut7 Hf7
            go_upto_region 11 with (
              at_builtin
              refine wpList_app _ rfl (.tmp 37) (.tmp 40) _ rfl etyB W.heap.size (.slice A8 (16 * s + 2 + 2) d8) (16 * s + 2 + 2) (u8s (ptUp e c n f s ++ leN e 2 ++ leN c 2)) rfl (O8.out.alloc _) (w8.heap.size + 1) (some ⟨w8.heap.size, 0, none⟩) 1 1 (u8s [UInt8.ofNat s]) rfl
                (one_u8P w8 _ _ (by rw [UInt8.toNat_ofNat']; first | omega | (simp [IntKind.wrap, IntKind.bits, IntKind.signed]; omega))) (u8s_one _) (by omega) (by simp; omega) ?_
              intro A9 d9 w9 hown hg _
              rw [← u8s_append] at hown
              have O9 := hide hown
              have Z9 := hide ((Z8.out.alloc hz8 _).grown hg (by simp; omega) (fun k hk => (O8.out.lt k hk).1))
              have hz9 : W.heap.size ≤ w9.heap.size := Nat.le_trans (by simp; omega) hg.size
              clear hown hg)
            clear O8 Z8
            have hel := run_el (k := s) (c := d) (A := A) (w := w9) hlt hcw
            have Hel := hide (own_el (k := s) (HW.out.below (Z9.out.mono (Nat.le_refl _))) hlt hcw)
            go_wp2_with (
              at_builtin
              refine wpList_app _ rfl (.tmp 42) (.tmp 49) _ rfl etyB W.heap.size (.slice A9 (16 * s + 2 + 2 + 1) d9) (16 * s + 2 + 2 + 1) (u8s (ptUp e c n f s ++ leN e 2 ++ leN c 2 ++ [UInt8.ofNat s])) rfl O9.out W.heap.size (cutA A d (11 * s)) 11 (d - 11 * s) (u8s (((ptW n f).drop (11 * s)).take 11)) rfl
                Hel.out (u8s_one _) (by omega) Z9.out.size ?_
              intro A10 d10 w10 hown hg _
              rw [← u8s_append] at hown
              have O10 := hide hown
              have Z10 := hide (Z9.out.grown hg Z9.out.size (fun k hk => (O9.out.lt k hk).1))
              clear hown hg)
            go_roundw
            case rel =>
              refine ⟨s + 1, A10, d10, by omega, by go_num, by rw [show 16 * (s + 1) = 16 * s + 2 + 2 + 1 + 11 by omega], ?_, Z10.out⟩
              rw [hup.out, show 16 * (s + 1) = 16 * s + 2 + 2 + 1 + 11 by omega]
              have := O10.out
              simp only [ptHead, List.append_assoc] at this ⊢
              exact this
            case measure => simp [intOf]; omega
          · obtain rfl : s = 4 := by omega
            have hcv := run_conv_txt (P := Try.prog) wr Try.underlying24 Try.underlying5 Try.underlying9 d' (OwnBy.by (show OwnBy wr W.heap.size A' 64 d' (ptBytes e c n f) from O.out))
            clear O hlt hs
            go_wp2_with fail
            go_ret
            exact ⟨rfl, B1.out.trans ((B.out.trans (Z.out.mono B.out.size)).mono B1.out.size)⟩
end Go.Proofs.Ytfaingklglelnaa

/- The walk over marlref17.Decode. -/
namespace Go.Proofs.Ytfaingklglelnaa
open Go.RowKit
attribute [local go_sem ↓] Go.wp_at_zero Go.wp_at_succ

theorem run_index_txt (l : List UInt8) (j : Nat) (k : Int) (hk : k = j) (hj : j < l.length) (w : World) : (Instr.index 9 (.string (txt l)) (.int .i64 k)).run Try.prog w = .ok (.int .u8 ((l.getD j 0).toNat : Int)) w := by
  subst hk
  have hs := txt_size l
  have hb : (txt l)[j]? = some (l.getD j 0) := by
    rw [List.getD_eq_getElem?_getD, List.getElem?_eq_getElem hj]
    show (if h : j < (txt l).size then some ((txt l)[j]'h) else none) = _
    rw [dif_pos (by rw [hs]; exact hj)]
    rfl
  simp [Instr.index, run_underlying Try.underlying9, asIntOf, hs, hb, hj]
  rfl
theorem fld2_getD {l : List UInt8} {i : Nat} (h : i + 1 < l.length) : fld l i 2 = (l.getD i 0).toNat + 256 * (l.getD (i + 1) 0).toNat := by
  rw [fld2_eq h, List.getD_eq_getElem?_getD, List.getD_eq_getElem?_getD, List.getElem?_eq_getElem h, List.getElem?_eq_getElem (by omega)]; rfl
theorem ret_rdec {K : Ending → World → Prop} {tmps : Array Value} {w : World} {g : Nat} {a b c d : Int} {v : Value} (hp : tmps.getD 2 undef = .pointer (some ⟨g, 0, none⟩)) (hq : tmps.getD 3 undef = v) (hB : Blk w g 30 (ptC a b c d))
    (hK : K (.returned (.tuple #[ptV a b c d, v])) w) : bodyPost Try.prog Try.f16 K .ret ⟨tmps, []⟩ w :=
  bodyPost_ret (results_ct rfl tmps w g _ _ (0, 0) _ hp hB Try.underlying30 rfl (by kernel_rfl)) rfl (by rw [hq]; exact hK)

set_option maxRecDepth 100000 in
set_option maxHeartbeats 4000000 in
theorem rdec17 (l : List UInt8) (w : World) (hl : l.length ≤ 1000000) :
    Calls Try.prog 16 #[.string (txt l)] w fun r w' => r = .returned (decV l) ∧ Below w.heap.size w w' := by
  have hs := txt_size l
  have K0 := hide (Blk.new w 30 #[.int .i64 0, .int .i64 0, .int .i64 0, .int .i64 0])
  have B0 := hide ((Below.refl w.heap.size w).alloc (Nat.le_refl _) (.cells #[.int .i64 0, .int .i64 0, .int .i64 0, .int .i64 0] 30))
  by_cases h64 : l.length = 64
  · have hn : (((txt l).size : Int) != 64) = false := by rw [hs, h64]; rfl
    have HL := hide h64
    have i0 := run_index_txt l 0 0 rfl (by omega)
    have i1 := run_index_txt l 1 1 rfl (by omega)
    have i2 := run_index_txt l 2 2 rfl (by omega)
    have i3 := run_index_txt l 3 3 rfl (by omega)
    have i5 := run_index_txt l 5 5 rfl (by omega)
    have i6 := run_index_txt l 6 6 rfl (by omega)
    have i7 := run_index_txt l 7 7 rfl (by omega)
    have i8 := run_index_txt l 8 8 rfl (by omega)
    have F0 := hide (fld2_getD (l := l) (i := 0) (by omega))
    have F2 := hide (fld2_getD (l := l) (i := 2) (by omega))
    have F5 := hide (fld2_getD (l := l) (i := 5) (by omega))
    have F7 := hide (fld2_getD (l := l) (i := 7) (by omega))
    clear hs hl h64
    simp only [Nat.zero_add, Nat.reduceAdd] at F0 F2 F5 F7
    generalize hx0 : (l.getD 0 0) = x0 at *
    generalize hx1 : (l.getD 1 0) = x1 at *
    generalize hx2 : (l.getD 2 0) = x2 at *
    generalize hx3 : (l.getD 3 0) = x3 at *
    generalize hx5 : (l.getD 5 0) = x5 at *
    generalize hx6 : (l.getD 6 0) = x6 at *
    generalize hx7 : (l.getD 7 0) = x7 at *
    generalize hx8 : (l.getD 8 0) = x8 at *
    clear hx0 hx1 hx2 hx3 hx5 hx6 hx7 hx8
    have y0 := x0.toNat_lt
    have y1 := x1.toNat_lt
    have y2 := x2.toNat_lt
    have y3 := x3.toNat_lt
    have y5 := x5.toNat_lt
    have y6 := x6.toNat_lt
    have y7 := x7.toNat_lt
    have y8 := x8.toNat_lt
    generalize x0.toNat = z0 at *
    generalize x1.toNat = z1 at *
    generalize x2.toNat = z2 at *
    generalize x3.toNat = z3 at *
    generalize x5.toNat = z5 at *
    generalize x6.toNat = z6 at *
    generalize x7.toNat = z7 at *
    generalize x8.toNat = z8 at *
    have s1 : IntKind.i64.wrap (256 * (z1 : Int)) = 256 * (z1 : Int) := by rw [IntKind.wrap_i64]; omega
    have t1 : IntKind.i64.wrap ((z0 : Int) + 256 * (z1 : Int)) = ((z0 + 256 * z1 : Nat) : Int) := by rw [IntKind.wrap_i64]; omega
    have s3 : IntKind.i64.wrap (256 * (z3 : Int)) = 256 * (z3 : Int) := by rw [IntKind.wrap_i64]; omega
    have t3 : IntKind.i64.wrap ((z2 : Int) + 256 * (z3 : Int)) = ((z2 + 256 * z3 : Nat) : Int) := by rw [IntKind.wrap_i64]; omega
    have s6 : IntKind.i64.wrap (256 * (z6 : Int)) = 256 * (z6 : Int) := by rw [IntKind.wrap_i64]; omega
    have t6 : IntKind.i64.wrap ((z5 : Int) + 256 * (z6 : Int)) = ((z5 + 256 * z6 : Nat) : Int) := by rw [IntKind.wrap_i64]; omega
    have s8 : IntKind.i64.wrap (256 * (z8 : Int)) = 256 * (z8 : Int) := by rw [IntKind.wrap_i64]; omega
    have t8 : IntKind.i64.wrap ((z7 : Int) + 256 * (z8 : Int)) = ((z7 + 256 * z8 : Nat) : Int) := by rw [IntKind.wrap_i64]; omega
    have c0 : IntKind.i64.wrap (z0 : Int) = z0 := by rw [IntKind.wrap_i64]; omega
    have c1 : IntKind.i64.wrap (z1 : Int) = z1 := by rw [IntKind.wrap_i64]; omega
    have c2 : IntKind.i64.wrap (z2 : Int) = z2 := by rw [IntKind.wrap_i64]; omega
    have c3 : IntKind.i64.wrap (z3 : Int) = z3 := by rw [IntKind.wrap_i64]; omega
    have c5 : IntKind.i64.wrap (z5 : Int) = z5 := by rw [IntKind.wrap_i64]; omega
    have c6 : IntKind.i64.wrap (z6 : Int) = z6 := by rw [IntKind.wrap_i64]; omega
    have c7 : IntKind.i64.wrap (z7 : Int) = z7 := by rw [IntKind.wrap_i64]; omega
    have c8 : IntKind.i64.wrap (z8 : Int) = z8 := by rw [IntKind.wrap_i64]; omega
    have HE : Hid (ptOf l = ⟨z0 + 256 * z1, z2 + 256 * z3, z5 + 256 * z6, z7 + 256 * z8⟩) := hide (by unfold ptOf; rw [F0.out, F2.out, F5.out, F7.out])
    clear F0 F2 F5 F7
    generalize z0 + 256 * z1 = pe at *
    generalize z2 + 256 * z3 = pc at *
    generalize z5 + 256 * z6 = pn at *
    generalize z7 + 256 * z8 = pf at *
    go_enter Try.func16, Try.ntmps16
    go_wp2_with fail
    generalize w.alloc (.cells #[.int .i64 0, .int .i64 0, .int .i64 0, .int .i64 0] 30) = w1 at *
    refine wp_region_noPanic ?_
    refine wp_region_held_drew (S := (fun _ => True)) (by kernel_rfl) ?_ (fun hHeld => ?_)
    · ((try dsimp only) <;> (first | trivial | assumption | go_keep))
    clear hHeld
    have hHeld : True := trivial
    refine wpAnyH_take (i := 0) (v := ?_) (by simp only [List.getElem?_toArray, List.getElem?_cons_succ, List.getElem?_cons_zero]; rfl) (by kernel_rfl) (by kernel_rfl) (by kernel_rfl) (fun _ _ _ h => h) (Or.inl ⟨by rfl, ?_⟩) (by assumption) ?_
    rotate_left 1
    · (intro w hSw; (try dsimp only at hSw); go_simp; try with_reducible rfl)
    try simp only [Act.put, List.setIfInBounds_toArray, List.set_cons_zero, List.set_cons_succ]
    refine wpAnyH_take (i := 1) (v := ?_) (by simp only [List.getElem?_toArray, List.getElem?_cons_succ, List.getElem?_cons_zero]; rfl) (by kernel_rfl) (by kernel_rfl) (by kernel_rfl) (fun _ _ _ h => h) (Or.inl ⟨by rfl, ?_⟩) (by assumption) ?_
    rotate_left 1
    · (intro w hSw; (try dsimp only at hSw); go_simp; try with_reducible rfl)
    try simp only [Act.put, List.setIfInBounds_toArray, List.set_cons_zero, List.set_cons_succ]
    refine wpAnyH_take (i := 2) (v := ?_) (by simp only [List.getElem?_toArray, List.getElem?_cons_succ, List.getElem?_cons_zero]; rfl) (by kernel_rfl) (by kernel_rfl) (by kernel_rfl) (fun _ _ _ h => h) (Or.inl ⟨by rfl, ?_⟩) (by assumption) ?_
    rotate_left 1
    · (intro w hSw; (try dsimp only at hSw); go_simp; try with_reducible rfl)
    try simp only [Act.put, List.setIfInBounds_toArray, List.set_cons_zero, List.set_cons_succ]
    refine wpAnyH_take (i := 3) (v := ?_) (by simp only [List.getElem?_toArray, List.getElem?_cons_succ, List.getElem?_cons_zero]; rfl) (by kernel_rfl) (by kernel_rfl) (by kernel_rfl) (fun _ _ _ h => h) (Or.inl ⟨by rfl, ?_⟩) (by assumption) ?_
    rotate_left 1
    · (intro w hSw; (try dsimp only at hSw); go_simp; try with_reducible rfl)
    try simp only [Act.put, List.setIfInBounds_toArray, List.set_cons_zero, List.set_cons_succ]
    refine wpAnyH_take (i := 4) (v := ?_) (by simp only [List.getElem?_toArray, List.getElem?_cons_succ, List.getElem?_cons_zero]; rfl) (by kernel_rfl) (by kernel_rfl) (by kernel_rfl) (fun _ _ _ h => h) (Or.inl ⟨by rfl, ?_⟩) (by assumption) ?_
    rotate_left 1
    · (intro w hSw; (try dsimp only at hSw); go_simp; try with_reducible rfl)
    try simp only [Act.put, List.setIfInBounds_toArray, List.set_cons_zero, List.set_cons_succ]
    refine wpAnyH_take (i := 5) (v := ?_) (by simp only [List.getElem?_toArray, List.getElem?_cons_succ, List.getElem?_cons_zero]; rfl) (by kernel_rfl) (by kernel_rfl) (by kernel_rfl) (fun _ _ _ h => h) (Or.inl ⟨by rfl, ?_⟩) (by assumption) ?_
    rotate_left 1
    · (intro w hSw; (try dsimp only at hSw); go_simp; try with_reducible rfl)
    try simp only [Act.put, List.setIfInBounds_toArray, List.set_cons_zero, List.set_cons_succ]
    refine wpAnyH_take (i := 6) (v := ?_) (by simp only [List.getElem?_toArray, List.getElem?_cons_succ, List.getElem?_cons_zero]; rfl) (by kernel_rfl) (by kernel_rfl) (by kernel_rfl) (fun _ _ _ h => h) (Or.inl ⟨by rfl, ?_⟩) (by assumption) ?_
    rotate_left 1
    · (intro w hSw; (try dsimp only at hSw); go_simp; try with_reducible rfl)
    try simp only [Act.put, List.setIfInBounds_toArray, List.set_cons_zero, List.set_cons_succ]
    refine wpAnyH_take (i := 7) (v := ?_) (by simp only [List.getElem?_toArray, List.getElem?_cons_succ, List.getElem?_cons_zero]; rfl) (by kernel_rfl) (by kernel_rfl) (by kernel_rfl) (fun _ _ _ h => h) (Or.inl ⟨by rfl, ?_⟩) (by assumption) ?_
    rotate_left 1
    · (intro w hSw; (try dsimp only at hSw); go_simp; try with_reducible rfl)
    try simp only [Act.put, List.setIfInBounds_toArray, List.set_cons_zero, List.set_cons_succ]
    refine wpAnyH_take (i := 8) (v := ?_) (by simp only [List.getElem?_toArray, List.getElem?_cons_succ, List.getElem?_cons_zero]; rfl) (by kernel_rfl) (by kernel_rfl) (by kernel_rfl) (fun _ _ _ h => h) (Or.inl ⟨by rfl, ?_⟩) (by assumption) ?_
    rotate_left 1
    · (intro w hSw; (try dsimp only at hSw); go_simp; try with_reducible rfl)
    try simp only [Act.put, List.setIfInBounds_toArray, List.set_cons_zero, List.set_cons_succ]
    refine wpAnyH_take (i := 9) (v := ?_) (by simp only [List.getElem?_toArray, List.getElem?_cons_succ, List.getElem?_cons_zero]; rfl) (by kernel_rfl) (by kernel_rfl) (by kernel_rfl) (fun _ _ _ h => h) (Or.inl ⟨by rfl, ?_⟩) (by assumption) ?_
    rotate_left 1
    · (intro w hSw; (try dsimp only at hSw); go_simp; try with_reducible rfl)
    try simp only [Act.put, List.setIfInBounds_toArray, List.set_cons_zero, List.set_cons_succ]
    refine wpAnyH_take (i := 10) (v := ?_) (by simp only [List.getElem?_toArray, List.getElem?_cons_succ, List.getElem?_cons_zero]; rfl) (by kernel_rfl) (by kernel_rfl) (by kernel_rfl) (fun _ _ _ h => h) (Or.inl ⟨by rfl, ?_⟩) (by assumption) ?_
    rotate_left 1
    · (intro w hSw; (try dsimp only at hSw); go_simp; try with_reducible rfl)
    try simp only [Act.put, List.setIfInBounds_toArray, List.set_cons_zero, List.set_cons_succ]
    refine wpAnyH_take (i := 11) (v := ?_) (by simp only [List.getElem?_toArray, List.getElem?_cons_succ, List.getElem?_cons_zero]; rfl) (by kernel_rfl) (by kernel_rfl) (by kernel_rfl) (fun _ _ _ h => h) (Or.inl ⟨by rfl, ?_⟩) (by assumption) ?_
    rotate_left 1
    · (intro w hSw; (try dsimp only at hSw); go_simp; try with_reducible rfl)
    try simp only [Act.put, List.setIfInBounds_toArray, List.set_cons_zero, List.set_cons_succ]
    refine wpAnyH_take (i := 12) (v := ?_) (by simp only [List.getElem?_toArray, List.getElem?_cons_succ, List.getElem?_cons_zero]; rfl) (by kernel_rfl) (by kernel_rfl) (by kernel_rfl) (fun _ _ _ h => h) (Or.inl ⟨by rfl, ?_⟩) (by assumption) ?_
    rotate_left 1
    · (intro w hSw; (try dsimp only at hSw); go_simp; try with_reducible rfl)
    try simp only [Act.put, List.setIfInBounds_toArray, List.set_cons_zero, List.set_cons_succ]
    refine wpAnyH_take (i := 13) (v := ?_) (by simp only [List.getElem?_toArray, List.getElem?_cons_succ, List.getElem?_cons_zero]; rfl) (by kernel_rfl) (by kernel_rfl) (by kernel_rfl) (fun _ _ _ h => h) (Or.inl ⟨by rfl, ?_⟩) (by assumption) ?_
    rotate_left 1
    · (intro w hSw; (try dsimp only at hSw); go_simp; try with_reducible rfl)
    try simp only [Act.put, List.setIfInBounds_toArray, List.set_cons_zero, List.set_cons_succ]
    refine wpAnyH_take (i := 14) (v := ?_) (by simp only [List.getElem?_toArray, List.getElem?_cons_succ, List.getElem?_cons_zero]; rfl) (by kernel_rfl) (by kernel_rfl) (by kernel_rfl) (fun _ _ _ h => h) (Or.inl ⟨by rfl, ?_⟩) (by assumption) ?_
    rotate_left 1
    · (intro w hSw; (try dsimp only at hSw); go_simp; try with_reducible rfl)
    try simp only [Act.put, List.setIfInBounds_toArray, List.set_cons_zero, List.set_cons_succ]
    refine wpAnyH_take (i := 15) (v := ?_) (by simp only [List.getElem?_toArray, List.getElem?_cons_succ, List.getElem?_cons_zero]; rfl) (by kernel_rfl) (by kernel_rfl) (by kernel_rfl) (fun _ _ _ h => h) (Or.inl ⟨by rfl, ?_⟩) (by assumption) ?_
    rotate_left 1
    · (intro w hSw; (try dsimp only at hSw); go_simp; try with_reducible rfl)
    try simp only [Act.put, List.setIfInBounds_toArray, List.set_cons_zero, List.set_cons_succ]
    refine wpAnyH_take (i := 16) (v := ?_) (by simp only [List.getElem?_toArray, List.getElem?_cons_succ, List.getElem?_cons_zero]; rfl) (by kernel_rfl) (by kernel_rfl) (by kernel_rfl) (fun _ _ _ h => h) (Or.inl ⟨by rfl, ?_⟩) (by assumption) ?_
    rotate_left 1
    · (intro w hSw; (try dsimp only at hSw); go_simp; try with_reducible rfl)
    try simp only [Act.put, List.setIfInBounds_toArray, List.set_cons_zero, List.set_cons_succ]
    refine wpAnyH_take (i := 17) (v := ?_) (by simp only [List.getElem?_toArray, List.getElem?_cons_succ, List.getElem?_cons_zero]; rfl) (by kernel_rfl) (by kernel_rfl) (by kernel_rfl) (fun _ _ _ h => h) (Or.inl ⟨by rfl, ?_⟩) (by assumption) ?_
    rotate_left 1
    · (intro w hSw; (try dsimp only at hSw); go_simp; try with_reducible rfl)
    try simp only [Act.put, List.setIfInBounds_toArray, List.set_cons_zero, List.set_cons_succ]
    refine wpAnyH_take (i := 18) (v := ?_) (by simp only [List.getElem?_toArray, List.getElem?_cons_succ, List.getElem?_cons_zero]; rfl) (by kernel_rfl) (by kernel_rfl) (by kernel_rfl) (fun _ _ _ h => h) (Or.inl ⟨by rfl, ?_⟩) (by assumption) ?_
    rotate_left 1
    · (intro w hSw; (try dsimp only at hSw); go_simp; try with_reducible rfl)
    try simp only [Act.put, List.setIfInBounds_toArray, List.set_cons_zero, List.set_cons_succ]
    refine wpAnyH_take (i := 19) (v := ?_) (by simp only [List.getElem?_toArray, List.getElem?_cons_succ, List.getElem?_cons_zero]; rfl) (by kernel_rfl) (by kernel_rfl) (by kernel_rfl) (fun _ _ _ h => h) (Or.inl ⟨by rfl, ?_⟩) (by assumption) ?_
    rotate_left 1
    · (intro w hSw; (try dsimp only at hSw); go_simp; try with_reducible rfl)
    try simp only [Act.put, List.setIfInBounds_toArray, List.set_cons_zero, List.set_cons_succ]
    refine wpAnyH_take (i := 20) (v := ?_) (by simp only [List.getElem?_toArray, List.getElem?_cons_succ, List.getElem?_cons_zero]; rfl) (by kernel_rfl) (by kernel_rfl) (by kernel_rfl) (fun _ _ _ h => h) (Or.inl ⟨by rfl, ?_⟩) (by assumption) ?_
    rotate_left 1
    · (intro w hSw; (try dsimp only at hSw); go_simp; try with_reducible rfl)
    try simp only [Act.put, List.setIfInBounds_toArray, List.set_cons_zero, List.set_cons_succ]
    refine wpAnyH_take (i := 21) (v := ?_) (by simp only [List.getElem?_toArray, List.getElem?_cons_succ, List.getElem?_cons_zero]; rfl) (by kernel_rfl) (by kernel_rfl) (by kernel_rfl) (fun _ _ _ h => h) (Or.inl ⟨by rfl, ?_⟩) (by assumption) ?_
    rotate_left 1
    · (intro w hSw; (try dsimp only at hSw); go_simp; try with_reducible rfl)
    try simp only [Act.put, List.setIfInBounds_toArray, List.set_cons_zero, List.set_cons_succ]
    refine wpAnyH_take (i := 22) (v := ?_) (by simp only [List.getElem?_toArray, List.getElem?_cons_succ, List.getElem?_cons_zero]; rfl) (by kernel_rfl) (by kernel_rfl) (by kernel_rfl) (fun _ _ _ h => h) (Or.inl ⟨by rfl, ?_⟩) (by assumption) ?_
    rotate_left 1
    · (intro w hSw; (try dsimp only at hSw); go_simp; try with_reducible rfl)
    try simp only [Act.put, List.setIfInBounds_toArray, List.set_cons_zero, List.set_cons_succ]
    refine wpAnyH_take (i := 23) (v := ?_) (by simp only [List.getElem?_toArray, List.getElem?_cons_succ, List.getElem?_cons_zero]; rfl) (by kernel_rfl) (by kernel_rfl) (by kernel_rfl) (fun _ _ _ h => h) (Or.inl ⟨by rfl, ?_⟩) (by assumption) ?_
    rotate_left 1
    · (intro w hSw; (try dsimp only at hSw); go_simp; try with_reducible rfl)
    try simp only [Act.put, List.setIfInBounds_toArray, List.set_cons_zero, List.set_cons_succ]
    refine wpAnyH_take (i := 24) (v := ?_) (by simp only [List.getElem?_toArray, List.getElem?_cons_succ, List.getElem?_cons_zero]; rfl) (by kernel_rfl) (by kernel_rfl) (by kernel_rfl) (fun _ _ _ h => h) (Or.inl ⟨by rfl, ?_⟩) (by assumption) ?_
    rotate_left 1
    · (intro w hSw; (try dsimp only at hSw); go_simp; try with_reducible rfl)
    try simp only [Act.put, List.setIfInBounds_toArray, List.set_cons_zero, List.set_cons_succ]
    refine wpAnyH_take (i := 25) (v := ?_) (by simp only [List.getElem?_toArray, List.getElem?_cons_succ, List.getElem?_cons_zero]; rfl) (by kernel_rfl) (by kernel_rfl) (by kernel_rfl) (fun _ _ _ h => h) (Or.inl ⟨by rfl, ?_⟩) (by assumption) ?_
    rotate_left 1
    · (intro w hSw; (try dsimp only at hSw); go_simp; try with_reducible rfl)
    try simp only [Act.put, List.setIfInBounds_toArray, List.set_cons_zero, List.set_cons_succ]
    refine wpAnyH_take (i := 26) (v := ?_) (by simp only [List.getElem?_toArray, List.getElem?_cons_succ, List.getElem?_cons_zero]; rfl) (by kernel_rfl) (by kernel_rfl) (by kernel_rfl) (fun _ _ _ h => h) (Or.inl ⟨by rfl, ?_⟩) (by assumption) ?_
    rotate_left 1
    · (intro w hSw; (try dsimp only at hSw); go_simp; try with_reducible rfl)
    try simp only [Act.put, List.setIfInBounds_toArray, List.set_cons_zero, List.set_cons_succ]
    refine wpAnyH_take (i := 27) (v := ?_) (by simp only [List.getElem?_toArray, List.getElem?_cons_succ, List.getElem?_cons_zero]; rfl) (by kernel_rfl) (by kernel_rfl) (by kernel_rfl) (fun _ _ _ h => h) (Or.inl ⟨by rfl, ?_⟩) (by assumption) ?_
    rotate_left 1
    · (intro w hSw; (try dsimp only at hSw); go_simp; try with_reducible rfl)
    try simp only [Act.put, List.setIfInBounds_toArray, List.set_cons_zero, List.set_cons_succ]
    refine wpAnyH_take (i := 28) (v := ?_) (by simp only [List.getElem?_toArray, List.getElem?_cons_succ, List.getElem?_cons_zero]; rfl) (by kernel_rfl) (by kernel_rfl) (by kernel_rfl) (fun _ _ _ h => h) (Or.inl ⟨by rfl, ?_⟩) (by assumption) ?_
    rotate_left 1
    · (intro w hSw; (try dsimp only at hSw); go_simp; try with_reducible rfl)
    try simp only [Act.put, List.setIfInBounds_toArray, List.set_cons_zero, List.set_cons_succ]
    refine wpAnyH_take (i := 29) (v := ?_) (by simp only [List.getElem?_toArray, List.getElem?_cons_succ, List.getElem?_cons_zero]; rfl) (by kernel_rfl) (by kernel_rfl) (by kernel_rfl) (fun _ _ _ h => h) (Or.inl ⟨by rfl, ?_⟩) (by assumption) ?_
    rotate_left 1
    · (intro w hSw; (try dsimp only at hSw); go_simp; try with_reducible rfl)
    try simp only [Act.put, List.setIfInBounds_toArray, List.set_cons_zero, List.set_cons_succ]
    refine wpAnyH_take (i := 30) (v := ?_) (by simp only [List.getElem?_toArray, List.getElem?_cons_succ, List.getElem?_cons_zero]; rfl) (by kernel_rfl) (by kernel_rfl) (by kernel_rfl) (fun _ _ _ h => h) (Or.inl ⟨by rfl, ?_⟩) (by assumption) ?_
    rotate_left 1
    · (intro w hSw; (try dsimp only at hSw); go_simp; try with_reducible rfl)
    try simp only [Act.put, List.setIfInBounds_toArray, List.set_cons_zero, List.set_cons_succ]
    refine wpAnyH_take (i := 31) (v := ?_) (by simp only [List.getElem?_toArray, List.getElem?_cons_succ, List.getElem?_cons_zero]; rfl) (by kernel_rfl) (by kernel_rfl) (by kernel_rfl) (fun _ _ _ h => h) (Or.inl ⟨by rfl, ?_⟩) (by assumption) ?_
    rotate_left 1
    · (intro w hSw; (try dsimp only at hSw); go_simp; try with_reducible rfl)
    try simp only [Act.put, List.setIfInBounds_toArray, List.set_cons_zero, List.set_cons_succ]
    refine wpAnyH_take (i := 32) (v := ?_) (by simp only [List.getElem?_toArray, List.getElem?_cons_succ, List.getElem?_cons_zero]; rfl) (by kernel_rfl) (by kernel_rfl) (by kernel_rfl) (fun _ _ _ h => h) (Or.inl ⟨by rfl, ?_⟩) (by assumption) ?_
    rotate_left 1
    · (intro w hSw; (try dsimp only at hSw); go_simp; try with_reducible rfl)
    try simp only [Act.put, List.setIfInBounds_toArray, List.set_cons_zero, List.set_cons_succ]
    refine wpAnyH_ready (rs := [33]) (by kernel_rfl) (by simp) ?_
    refine AllReadyH.cons (by simp only [List.getElem?_toArray, List.getElem?_cons_succ, List.getElem?_cons_zero]; rfl) (fun K hK => ?_) ?_
    rotate_left 1
    · exact AllReadyH.nil
    go_simp
    refine hK.out _ _ ?_ (fun hHeld2 => ?_)
    · ((try dsimp only) <;> (first | trivial | assumption | go_keep))
    clear hHeld
    have hHeld := hHeld2
    clear hHeld2 hK K
    try simp only [Act.put, List.setIfInBounds_toArray, List.set_cons_zero, List.set_cons_succ]
    refine wpAnyH_ready (rs := [34]) (by kernel_rfl) (by simp) ?_
    refine AllReadyH.cons (by simp only [List.getElem?_toArray, List.getElem?_cons_succ, List.getElem?_cons_zero]; rfl) (fun K hK => ?_) ?_
    rotate_left 1
    · exact AllReadyH.nil
    go_simp
    refine hK.out _ _ ?_ (fun hHeld2 => ?_)
    · ((try dsimp only) <;> (first | trivial | assumption | go_keep))
    clear hHeld
    have hHeld := hHeld2
    clear hHeld2 hK K
    try simp only [Act.put, List.setIfInBounds_toArray, List.set_cons_zero, List.set_cons_succ]
    refine wpAnyH_done (by kernel_rfl) ?_ _
    refine NoPanic.normal ?_
    try simp only [c0, c1, c2, c3, c5, c6, c7, c8, s1, s3, s6, s8, t1, t3, t6, t8]
    clear c0 c1 c2 c3 c5 c6 c7 c8 s1 s3 s6 s8 t1 t3 t6 t8 i0 i1 i2 i3 i5 i6 i7 i8 hHeld
    have K1 := hide ((K0.out.alloc (.cells (ptC pe pc pn pf) 30)).drew)
    have K2 := hide ((Blk.new w1 30 (ptC pe pc pn pf)).drew)
    have B2 := hide ((B0.out.alloc B0.out.size (.cells (ptC pe pc pn pf) 30)).drew)
    have hne : Hid (w.heap.size ≠ w1.heap.size) := hide (by have := K0.out.lt; omega)
    generalize (w1.alloc (.cells (ptC pe pc pn pf) 30)).drew = w2 at *
    generalize w1.heap.size = g2 at *
    obtain ⟨c0, c1, c2, c3⟩ := ptb4 K2.out
    go_wp2_with fail
    clear c0 c1 c2 c3
    refine (rgood_any pe pc pn pf w2).mono ?_
    rintro r w3 ⟨rfl, hb⟩
    replace K1 := hide (K1.out.below hb)
    replace K2 := hide (K2.out.below hb)
    replace B2 := hide (B2.out.trans (hb.mono B2.out.size))
    clear hb
    by_cases hP : PtP pe pc pn pf
    · have hd : decide (PtP pe pc pn pf) = true := decide_eq_true hP
      rw [hd]
      have HP := hide hP
      clear hP hd
      obtain ⟨c0, c1, c2, c3⟩ := ptb4 K2.out
      go_wp2_with fail
      clear c0 c1 c2 c3
      refine (renc17 pe pc pn pf w3 HP.out).mono ?_
      rintro r w4 ⟨rfl, hb⟩
      replace K1 := hide (K1.out.below hb)
      replace K2 := hide (K2.out.below hb)
      replace B2 := hide (B2.out.trans (hb.mono B2.out.size))
      clear hb
      obtain ⟨c0, c1, c2, c3⟩ := ptb4 K1.out
      obtain ⟨f0, f1, f2, f3⟩ := blk4f K1.out
      obtain ⟨d0, d1, d2, d3⟩ := ptb4 K2.out
      by_cases hQ : ptBytes pe pc pn pf = l
      · have HF := hide (show decP l = some ⟨pe, pc, pn, pf⟩ from by
          unfold decP
          rw [HE.out, if_pos ⟨HL.out, HP.out, hQ⟩])
        have ht := txt_eq l
        rw [hQ]
        clear hQ
        go_wp2_with fail
        exact ret_rdec rfl rfl (put4_blk K1.out) ⟨by rw [decV_some HF.out]; rfl, put4_bel B2.out (Nat.le_refl _)⟩
      · have HF := hide (show decP l = none from by
          unfold decP
          rw [HE.out]
          exact if_neg (by rintro ⟨-, -, h⟩; exact hQ h))
        have ht := txt_ne hQ
        clear hQ
        go_wp2_with fail
        exact ret_rdec rfl rfl (put4_blk K1.out) ⟨by rw [decV_none HF.out]; rfl, put4_bel B2.out (Nat.le_refl _)⟩
    · have hd : decide (PtP pe pc pn pf) = false := decide_eq_false hP
      have HF := hide (show decP l = none from by
          unfold decP
          rw [HE.out]
          exact if_neg (by rintro ⟨-, h, -⟩; exact hP h))
      rw [hd]
      clear hP hd
      obtain ⟨c0, c1, c2, c3⟩ := ptb4 K1.out
      obtain ⟨f0, f1, f2, f3⟩ := blk4f K1.out
      go_wp2_with fail
      exact ret_rdec rfl rfl (put4_blk K1.out) ⟨by rw [decV_none HF.out]; rfl, put4_bel B2.out (Nat.le_refl _)⟩
  · have hn : (((txt l).size : Int) != 64) = true := by rw [hs, bne_iff_ne]; omega
    have HF := hide (show decP l = none from if_neg (by rintro ⟨h, -⟩; exact h64 h))
    clear h64 hs
    go_enter Try.func16, Try.ntmps16
    go_wp2_with fail
    exact ret_rdec rfl rfl K0.out ⟨by rw [decV_none HF.out]; rfl, B0.out⟩
end Go.Proofs.Ytfaingklglelnaa
