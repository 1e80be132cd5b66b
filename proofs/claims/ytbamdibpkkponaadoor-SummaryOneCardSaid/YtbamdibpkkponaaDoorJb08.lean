import Derived.Test.YtbamdibpkkponaaDoorJb06
import Derived.Test.YtbamdibpkkponaaDoorJb07
import Derived.Test.YtbamdibpkkponaaDoorJb01
set_option linter.unusedVariables false
set_option linter.unusedSimpArgs false
/- The walk of summary.Decode. -/
namespace Go.Proofs.YtbamdibpkkponaaDoor
open Go.RowKit
attribute [local go_sem ↓] Go.wp_at_zero Go.wp_at_succ
/-- Go's min, kept whole in a walk. -/
def minK_DecAnsX_dec (ts : Array TypeId) (t : TypeId) (vs : Array Value) : Sem Value := Builtin.min_ ts t vs
theorem minK_DecAnsX_dec_keep (ts : Array TypeId) (t : TypeId) (vs : Array Value) : Builtin.min_ ts t vs = minK_DecAnsX_dec ts t vs := rfl
attribute [local go_sem ↓] minK_DecAnsX_dec_keep

def zeroPart : Value := .agg (partC 0 0 0 0 0 none 0 0 none 0 0)
/-- What Decode answers. -/
def DecAns (l : List UInt8) (base : Nat) (r : Ending) (w' : World) : Prop :=
  (∃ v s, IsEnc l v s ∧ ∃ B1 d1 B2 d2 cs, r = .returned (.tuple #[.agg (partC v.e v.c v.i v.p v.x B1 v.fs.length d1 B2 v.is.length d2), .int .u32 (s : Int), .int .i64 0]) ∧ ORow base w' B1 v.fs.length d1 cs v.fs ∧ w'.ownsRow base 3 1 (.slice B2 v.is.length d2) v.is.length (intC v.is)) ∨
  ((∀ v s, ¬ IsEnc l v s) ∧ r = .returned (.tuple #[zeroPart, .int .u32 0, .int .i64 100]))
/-- The same; and the inodes' block is none of the lists' ones. -/
def DecAnsX (l : List UInt8) (base : Nat) (r : Ending) (w' : World) : Prop :=
  (∃ v s, IsEnc l v s ∧ ∃ B1 d1 B2 d2 cs, (∀ (j : Nat) (x : List Value) (g : Nat), cs[j]? = some x → lsB x = some g → (Value.slice B2 v.is.length d2).ownBlock ≠ some g) ∧ r = .returned (.tuple #[.agg (partC v.e v.c v.i v.p v.x B1 v.fs.length d1 B2 v.is.length d2), .int .u32 (s : Int), .int .i64 0]) ∧ ORow base w' B1 v.fs.length d1 cs v.fs ∧ w'.ownsRow base 3 1 (.slice B2 v.is.length d2) v.is.length (intC v.is)) ∨
  ((∀ v s, ¬ IsEnc l v s) ∧ r = .returned (.tuple #[zeroPart, .int .u32 0, .int .i64 100]))
theorem DecAnsX.dec {l : List UInt8} {base : Nat} {r : Ending} {w' : World} (h : DecAnsX l base r w') : DecAns l base r w' := by
  rcases h with ⟨v, s, h1, B1, d1, B2, d2, cs, -, h2⟩ | h
  · exact .inl ⟨v, s, h1, B1, d1, B2, d2, cs, h2⟩
  · exact .inr h
theorem ret_decS {K : Ending → World → Prop} {tmps : Array Value} {w : World} {g : Nat} {cs : Array Value} {v u : Value} (hp : tmps.getD 2 undef = .pointer (some ⟨g, 0, none⟩)) (hq : tmps.getD 3 undef = v) (hu : tmps.getD 4 undef = u) (hB : Blk w g 25 cs) (hs : cs.size = 7)
    (hK : K (.returned (.tuple #[.agg cs, v, u])) w) : bodyPost Tryd.prog Tryd.f20 K .ret ⟨tmps, []⟩ w :=
  bodyPost_ret (results_ctt rfl tmps w g _ _ (0, 0) _ hp hB Tryd.underlying25 rfl (by rw [hs]; kernel_rfl)) rfl (by rw [hq, hu]; exact hK)
set_option maxRecDepth 100000 in
set_option maxHeartbeats 4000000 in
theorem dec_anyX (A : Option Addr) (n c base : Nat) (l : List UInt8) (w : World) (h : ByT 0 base w A n l) (hbase : base ≤ w.heap.size) (hc : n ≤ c) (hcm : c ≤ 9223372036854775807) (sp : SpanAt w) :
    Calls Tryd.prog 20 #[.slice A n c] w fun r w' => DecAnsX l w.heap.size r w' ∧ Below w.heap.size w w' := by
  have H := hide h
  have HBS := hide hbase
  have SP := hide sp
  have hl := ByT.len h
  clear h sp hbase
  by_cases hn : n = 128
  rotate_left
  · have hn' : ¬ (n : Int) = 128 := by omega
    have HN := hide (show ∀ v s, ¬ IsEnc l v s from fun v s hv => hn (by rw [← hl]; exact parseC_len hv))
    clear hn hl
    go_enter Tryd.func20, Tryd.ntmps20
    go_wp2_with fail
    exact ret_decS rfl rfl rfl (Blk.new _ _ _) rfl ⟨.inr ⟨HN.out, rfl⟩, (Below.refl _ _).alloc (Nat.le_refl _) _⟩
  subst hn
  have HC := hide (And.intro hc hcm)
  have HL := hide hl
  clear hc hcm hl
  have hcut : ∀ W : World, (Instr.slice 30 (.slice A 128 c) none (some (.int .i64 4)) none).run Tryd.prog W = .ok (.slice A 4 c) W := fun W => run_cut_h (P := Tryd.prog) etyB A 128 c W 4 .i64 (by have := HC.out.1; omega)
  go_enter Tryd.func20, Tryd.ntmps20
  go_upto_region 4 with fail
  clear hcut
  obtain ⟨w2, hw2⟩ : ∃ W, W = ((w.alloc (.cells #[.int .i64 0, .int .i64 0, .int .i64 0, .int .i64 0, .int .i64 0, .slice none 0 0, .slice none 0 0] 25)).alloc (.cells #[.slice A 4 c] 65)) := ⟨_, rfl⟩
  have KZ : Hid (Blk w2 w.heap.size 25 #[.int .i64 0, .int .i64 0, .int .i64 0, .int .i64 0, .int .i64 0, .slice none 0 0, .slice none 0 0]) := hide (by rw [hw2]; exact (Blk.new _ _ _).alloc _)
  have B2 : Hid (Below w.heap.size w w2) := hide (by rw [hw2]; exact ((Below.refl _ _).alloc (Nat.le_refl _) _).alloc (by simp) _)
  have H2 := hide (RwAt.base_ (RwAt.below H.out B2.out) HBS.out)
  have RH : Hid (RdB w.heap.size w2 (w.heap.size + 1) (l.take 4)) := hide ⟨A, 4, c, by
    rw [hw2]
    have := Blk.new (w.alloc (.cells #[.int .i64 0, .int .i64 0, .int .i64 0, .int .i64 0, .int .i64 0, .slice none 0 0, .slice none 0 0] 25)) 65 #[.slice A 4 c]
    rwa [World.size_alloc] at this, ByT.head H2.out (by omega), by have := HC.out.1; omega, HC.out.2⟩
  have L2 := hide (show w2.heap.size = w.heap.size + 2 by rw [hw2]; simp)
  have HBy := hide (fun (w' : World) (hb : Below w.heap.size w w') => show ByT 0 w.heap.size w' A 128 l from RwAt.base_ (RwAt.below H.out hb) HBS.out)
  rw [← hw2]
  clear hw2 H H2
  obtain ⟨S, hS⟩ : ∃ S, S = w.heap.size := ⟨_, rfl⟩
  have HS := hide hS
  rw [← hS] at KZ B2 RH L2 HBy ⊢
  clear hS
  go_wp2_with fail
  refine (next_rd 2 (by decide) S (S + 1) (l.take 4) w2 RH.out (by omega)).mono ?_
  rintro r w3 ⟨rfl, hr, hk⟩
  replace KZ := hide (KZ.out.kp hk (by simp))
  have B3 := hide (B2.out.trans (hk.below (by rw [L2.out]; omega) (by simp)))
  have L3 := hide hk.size
  have RH3 := hide hr
  clear hr hk B2 RH
  go_wp2_with fail
  refine (next_rd 2 (by decide) S (S + 1) _ w3 RH3.out (by omega)).mono ?_
  rintro r w4 ⟨rfl, hr, hk⟩
  replace KZ := hide (KZ.out.kp hk (by simp))
  have B4 := hide (B3.out.trans (hk.below (by have := L2.out; have := L3.out; omega) (by simp)))
  have L4 := hide (Nat.le_trans L3.out hk.size)
  clear hr hk B3 RH3 L3
  rw [nx_take (by decide), nx_take2]
  obtain ⟨e, he⟩ : ∃ e : Nat, e = nx 2 l := ⟨_, rfl⟩
  obtain ⟨cc, hcc⟩ : ∃ e : Nat, e = nx 2 (l.drop 2) := ⟨_, rfl⟩
  have HEC := hide (And.intro he hcc)
  rw [← he, ← hcc]
  clear he hcc
  go_upto_region 7 with fail
  obtain ⟨w5, hw5⟩ : ∃ W, W = ((w4.alloc (.cells #[.int .i64 (e : Int), .int .i64 (cc : Int), .int .i64 0, .int .i64 0, .int .i64 0, .slice none 0 0, .slice none 0 0] 25)).alloc (.cells #[.slice none 0 0] 65)) := ⟨_, rfl⟩
  have KP : Hid (Blk w5 w4.heap.size 25 #[.int .i64 (e : Int), .int .i64 (cc : Int), .int .i64 0, .int .i64 0, .int .i64 0, .slice none 0 0, .slice none 0 0]) := hide (by rw [hw5]; exact (Blk.new _ _ _).alloc _)
  have KR : Hid (Blk w5 (w4.heap.size + 1) 65 #[.slice none 0 0]) := hide (by
    rw [hw5]
    have := Blk.new (w4.alloc (.cells #[.int .i64 (e : Int), .int .i64 (cc : Int), .int .i64 0, .int .i64 0, .int .i64 0, .slice none 0 0, .slice none 0 0] 25)) 65 #[.slice none 0 0]
    rwa [World.size_alloc] at this)
  have b5 : Below w4.heap.size w4 w5 := by rw [hw5]; exact ((Below.refl _ _).alloc (Nat.le_refl _) _).alloc (by simp) _
  have hs5 : w5.heap.size = w4.heap.size + 2 := by rw [hw5]; simp
  rw [← hw5]
  have KZ5 := hide (KZ.out.below b5)
  have hSz : S + 2 ≤ w4.heap.size := by rw [← L2.out]; exact L4.out
  have B5 := hide (B4.out.trans (b5.mono (by omega)))
  obtain ⟨gP, hgP⟩ : ∃ g, g = w4.heap.size := ⟨_, rfl⟩
  rw [← hgP] at KP KR hs5 hSz ⊢
  have LP := hide (And.intro hSz hs5)
  clear hw5 b5 hs5 hSz hgP KZ B4 L4 L2
  clear w4 w3 w2
  go_loopw [8] (fun y wr => ∃ (s kr : Nat) (Ar : Option Addr), s ≤ 8 ∧ y = .int .i64 ((16 * s : Nat) : Int) ∧ Blk wr (gP + 1) 65 #[.slice Ar (11 * s) kr] ∧ OwnBy wr w5.heap.size Ar (11 * s) kr ((List.range s).flatMap fun t => (l.drop (16 * t + 5)).take 11) ∧ Kp [gP + 1] w5 wr) (fun y _ => 128 - (intOf y).toNat)
  case atStart => exact ⟨0, 0, none, by omega, rfl, KR.out, World.ownsRow_nil _ _ _ _, Kp.refl _ _⟩
  case round =>
    obtain ⟨s, kr, Ar, hs, rfl, hR, ho, hk⟩ := hrel
    have R7 := hide hR
    have O7 := hide ho
    have K7 := hide hk
    have B7 := hide (B5.out.trans (hk.below (by have := LP.out; omega) (by intro g hg; have := LP.out; simp only [List.mem_singleton] at hg; omega)))
    clear hR ho hk
    by_cases hls : s < 8
    · have hss : 16 * (s : Int) < 128 := by omega
      have h5 : IntKind.i64.wrap (16 * (s : Int) + 5) = 16 * (s : Int) + 5 := by rw [IntKind.wrap_i64]; omega
      have h16 : IntKind.i64.wrap (16 * (s : Int) + 16) = 16 * (s : Int) + 16 := by rw [IntKind.wrap_i64]; omega
      have hcut : ∀ W : World, (Instr.slice 30 (.slice A 128 c) (some (.int .i64 (16 * (s : Int) + 5))) (some (.int .i64 (16 * (s : Int) + 16))) none).run Tryd.prog W = .ok (.slice (cutA A c (16 * s + 5)) 11 (c - (16 * s + 5))) W := fun W => by
        have := run_cut_lh (P := Tryd.prog) etyB A 128 c W (16 * s + 5) (16 * s + 16) .i64 .i64 (by omega) (by have := HC.out.1; omega)
        rw [show 16 * s + 16 - (16 * s + 5) = 11 by omega] at this
        rw [show 16 * (s : Int) + 5 = ((16 * s + 5 : Nat) : Int) by omega, show 16 * (s : Int) + 16 = ((16 * s + 16 : Nat) : Int) by omega]
        exact this
      have z0 := R7.out.cell 0
      simp only [List.getElem?_toArray, List.getElem?_cons_zero] at z0
      have SL := hide (show By wr.drew wr.heap.size (cutA A c (16 * s + 5)) 11 ((l.drop (16 * s + 5)).take 11) by
        have h1 := ByT.cut (m := 16 * s + 5) (HBy.out wr B7.out) (by omega) HC.out.1
        have h2 := ByT.head (m := 11) h1 (by omega)
        exact (RwAt.sl h2).drew)
      have O8 := hide (own_bel O7.out ((Below.refl wr.heap.size wr).drew))
      have R8 := hide (R7.out.below ((Below.refl wr.heap.size wr).drew))
      have K8 := hide K7.out.drew
      go_wp2_with fail
      refine wp_region_noPanic ?_
      refine wp_region_last (n := 8) (S := (fun w' => w'.cell? ⟨gP + 1, 0, none⟩ = some (.slice Ar (11 * s) kr))) (by kernel_rfl) (by rfl) (by kernel_rfl) ?_ (fun hHeld => ?_)
      · ((try dsimp only) <;> (first | trivial | assumption | go_keep))
      refine wpAnyH_take (i := 0) (v := ?_) (by simp only [List.getElem?_toArray, List.getElem?_cons_zero]; rfl) (by kernel_rfl) (by kernel_rfl) (by kernel_rfl) (fun _ _ _ h => h) (Or.inl ⟨by rfl, ?_⟩) (by assumption) ?_
      rotate_left 1
      · (intro w hSw; (try dsimp only at hSw); go_simp; try with_reducible rfl)
      try simp only [Act.put, List.setIfInBounds_toArray, List.set_cons_zero, List.set_cons_succ]
      refine wpAnyH_take (i := 1) (v := ?_) (by simp only [List.getElem?_toArray, List.getElem?_cons_succ, List.getElem?_cons_zero]; rfl) (by kernel_rfl) (by kernel_rfl) (by kernel_rfl) (fun _ _ _ h => h) (Or.inl ⟨by rfl, ?_⟩) (by assumption) ?_
      rotate_left 1
      · (intro w hSw; (try dsimp only at hSw); go_simp; try with_reducible rfl)
      try simp only [Act.put, List.setIfInBounds_toArray, List.set_cons_zero, List.set_cons_succ]
      refine wpAnyH_take (i := 2) (v := ?_) (by simp only [List.getElem?_toArray, List.getElem?_cons_succ, List.getElem?_cons_zero]; rfl) (by kernel_rfl) (by kernel_rfl) (by kernel_rfl) (fun _ _ _ h => h) (Or.inl ⟨by rfl, ?_⟩) (by assumption) ?_
      rotate_left 1
      · (intro w hSw; (try dsimp only at hSw); go_simp; try with_reducible rfl)
      try simp only [Act.put, List.setIfInBounds_toArray, List.set_cons_zero, List.set_cons_succ]
      refine wpAnyH_take (i := 3) (v := ?_) (by simp only [List.getElem?_toArray, List.getElem?_cons_succ, List.getElem?_cons_zero]; rfl) (by kernel_rfl) (by kernel_rfl) (by kernel_rfl) (fun _ _ _ h => h) (Or.inl ⟨by rfl, ?_⟩) (by assumption) ?_
      rotate_left 1
      · (intro w hSw; (try dsimp only at hSw); go_simp; try with_reducible rfl)
      try simp only [Act.put, List.setIfInBounds_toArray, List.set_cons_zero, List.set_cons_succ]
      refine wpAnyH_take (i := 4) (v := ?_) (by simp only [List.getElem?_toArray, List.getElem?_cons_succ, List.getElem?_cons_zero]; rfl) (by kernel_rfl) (by kernel_rfl) (by kernel_rfl) (fun _ _ _ h => h) (Or.inl ⟨by rfl, ?_⟩) (by assumption) ?_
      rotate_left 1
      · (intro w hSw; (try dsimp only at hSw); go_simp; try with_reducible rfl)
      try simp only [Act.put, List.setIfInBounds_toArray, List.set_cons_zero, List.set_cons_succ]
      refine wpAnyH_take (i := 5) (v := ?_) (by simp only [List.getElem?_toArray, List.getElem?_cons_succ, List.getElem?_cons_zero]; rfl) (by kernel_rfl) (by kernel_rfl) (by kernel_rfl) (fun _ _ _ h => h) (Or.inl ⟨by rfl, ?_⟩) (by assumption) ?_
      rotate_left 1
      · (intro w hSw; (try dsimp only at hSw); go_simp; try with_reducible rfl)
      try simp only [Act.put, List.setIfInBounds_toArray, List.set_cons_zero, List.set_cons_succ]
      refine wpAnyH_take (i := 6) (v := ?_) (by simp only [List.getElem?_toArray, List.getElem?_cons_succ, List.getElem?_cons_zero]; rfl) (by kernel_rfl) (by kernel_rfl) (by kernel_rfl) (fun _ _ _ h => h) (Or.inl ⟨by rfl, ?_⟩) (by assumption) ?_
      rotate_left 1
      · (intro w hSw; (try dsimp only at hSw); go_simp; try with_reducible rfl)
      try simp only [Act.put, List.setIfInBounds_toArray, List.set_cons_zero, List.set_cons_succ]
      clear hcut
      refine wpAnyH_ready (rs := [7]) (by kernel_rfl) (by simp) ?_
      refine AllReadyH.cons (by simp only [List.getElem?_toArray, List.getElem?_cons_succ, List.getElem?_cons_zero]; rfl) (fun K hK => ?_) ?_
      rotate_left 1
      · exact AllReadyH.nil
      refine step_app2 rfl (.tmp 32) (.tmp 38) _ _ (by rfl) etyRd Tryd.underlying30 w5.heap.size (.slice Ar (11 * s) kr) (11 * s) _ (by rfl) O8.out wr.heap.size (cutA A c (16 * s + 5)) 11 (c - (16 * s + 5)) (u8s ((l.drop (16 * s + 5)).take 11)) (by rfl) SL.out (u8s_one _) (by omega) (by have := K7.out.size; exact this) ?_; intro A9 k9 w9 hown hg _; have O9 := hide hown; have R9 := hide (blk_gr R8.out hg (fun e => by have h1 := (O8.out.lt _ e.symm).1; have h2 := LP.out; omega)); have K9 := hide (Kp.gr8 K8.out hg (fun k hk => (O8.out.lt k hk).1)); clear hown hg
      refine hK.out _ _ ?_ (fun hHeld2 => ?_)
      · ((try dsimp only) <;> (exact R9.out.cell 0))
      clear hHeld
      have hHeld := hHeld2
      clear hHeld2 hK K
      try simp only [Act.put, List.setIfInBounds_toArray, List.set_cons_zero, List.set_cons_succ]
      have z0 := R9.out.cell 0
      have f0 := R9.out.frozen 0
      simp only [List.getElem?_toArray, List.getElem?_cons_zero] at z0
      refine wpAnyH_done (by kernel_rfl) ?_ _
      refine LastQ.step (by simp only [List.getElem?_toArray, List.getElem?_cons_succ, List.getElem?_cons_zero]; rfl) (by rfl) ?_
      go_simp
      refine NoPanic.normal ?_
      have K10 := hide (K9.out.set (p := ⟨gP + 1, 0, none⟩) (.inl (by simp)) (.slice A9 (11 * s + 11) k9))
      have R10 := hide (R9.out.set 0 (.slice A9 (11 * s + 11) k9))
      have O10 := hide (own_kq O9.out ((Kp.refl [gP + 1] w9).set (p := ⟨gP + 1, 0, none⟩) (.inl (by simp)) (.slice A9 (11 * s + 11) k9)) (fun g hg => by have h1 := (O9.out.lt g hg).1; have h2 := LP.out; simp; omega))
      clear hHeld O9 R9 K9 O8 R8 K8 SL z0 f0
      go_wp2_with fail
      refine ⟨⟨s + 1, k9, A9, by omega, by rw [show ((16 * (s + 1) : Nat) : Int) = 16 * (s : Int) + 16 by omega], by simpa [Nat.mul_succ] using R10.out, ?_, K10.out⟩, by simp [intOf]; omega⟩
      have h1 := O10.out
      rw [← u8s_append] at h1
      rw [List.range_succ, List.flatMap_append, Nat.mul_succ]
      simpa [OwnBy] using h1
    · have hs8 : s = 8 := by omega
      have hss : ¬ 16 * (s : Int) < 128 := by omega
      have RD : Hid (RdB S wr (gP + 1) (unB l)) := hide (by
        have h1 := O7.out
        rw [hs8] at h1
        have h2 := R7.out
        rw [hs8] at h2
        obtain ⟨_, _, e1, h3, h4⟩ := own_form h1
        injection e1 with e1 e2 e3
        exact ⟨Ar, 88, kr, h2, RwAt.lo_ (RwAt.of_own h1) (Nat.zero_le _), by omega, by rw [e3]; exact h4⟩)
      have KZ := hide (KZ5.out.kp K7.out (by have := LP.out; simp only [List.mem_singleton]; omega))
      replace KP := hide (KP.out.kp K7.out (by simp))
      have BN := hide B7.out
      have SZ := hide (show gP + 2 ≤ wr.heap.size by rw [← LP.out.2]; exact K7.out.size)
      obtain ⟨W, hW⟩ : ∃ W, W = unB l := ⟨_, rfl⟩
      have HW := hide hW
      rw [← hW] at RD
      clear hs8 hW KR KZ5 R7 O7 K7 B7 B5
      go_wp2_with fail
      refine (next_rd 1 (by decide) S (gP + 1) (W) wr RD.out (by have := LP.out; omega)).mono ?_
      rintro r w6 ⟨rfl, hr, hk⟩
      obtain ⟨x0, hx⟩ : ∃ x : Nat, x = nx 1 (W) := ⟨_, rfl⟩
      have Hx0 := hide hx
      rw [← hx]
      clear hx
      replace KZ := hide (KZ.out.kp hk (by have := LP.out; simp only [List.mem_singleton]; omega))
      replace KP := hide (KP.out.kp hk (by simp))
      replace BN := hide (BN.out.trans (hk.below (by have := SZ.out; have := LP.out; omega) (by intro g hg; have := LP.out; simp only [List.mem_singleton] at hg; omega)))
      replace SZ := hide (Nat.le_trans SZ.out hk.size)
      replace RD := hide hr
      clear hr hk
      go_wp2_with fail
      refine (next_rd 1 (by decide) S (gP + 1) (W.drop 1) w6 RD.out (by have := LP.out; omega)).mono ?_
      rintro r w7 ⟨rfl, hr, hk⟩
      obtain ⟨x1, hx⟩ : ∃ x : Nat, x = nx 1 (W.drop 1) := ⟨_, rfl⟩
      have Hx1 := hide hx
      rw [← hx]
      clear hx
      replace KZ := hide (KZ.out.kp hk (by have := LP.out; simp only [List.mem_singleton]; omega))
      replace KP := hide (KP.out.kp hk (by simp))
      replace BN := hide (BN.out.trans (hk.below (by have := SZ.out; have := LP.out; omega) (by intro g hg; have := LP.out; simp only [List.mem_singleton] at hg; omega)))
      replace SZ := hide (Nat.le_trans SZ.out hk.size)
      replace RD := hide hr
      clear hr hk
      rw [List.drop_drop] at RD
      go_wp2_with fail
      refine (next_rd 2 (by decide) S (gP + 1) (W.drop 2) w7 RD.out (by have := LP.out; omega)).mono ?_
      rintro r w8 ⟨rfl, hr, hk⟩
      obtain ⟨x2, hx⟩ : ∃ x : Nat, x = nx 2 (W.drop 2) := ⟨_, rfl⟩
      have Hx2 := hide hx
      rw [← hx]
      clear hx
      replace KZ := hide (KZ.out.kp hk (by have := LP.out; simp only [List.mem_singleton]; omega))
      replace KP := hide (KP.out.kp hk (by simp))
      replace BN := hide (BN.out.trans (hk.below (by have := SZ.out; have := LP.out; omega) (by intro g hg; have := LP.out; simp only [List.mem_singleton] at hg; omega)))
      replace SZ := hide (Nat.le_trans SZ.out hk.size)
      replace RD := hide hr
      clear hr hk
      rw [List.drop_drop] at RD
      simp only [Nat.reduceAdd] at RD
      have y2 := KP.out.cell 2
      have y3 := KP.out.cell 3
      have y4 := KP.out.cell 4
      simp only [List.getElem?_toArray, List.getElem?_cons_succ, List.getElem?_cons_zero] at y2 y3 y4
      have f2 := KP.out.frozen 2
      have f3 := KP.out.frozen 3
      have f4 := KP.out.frozen 4
      go_upto_region 12 with fail
      clear y2 y3 y4 f2 f3 f4
      obtain ⟨w9, hw9⟩ : ∃ W9, W9 = ((w8.setCell ⟨gP, 2, none⟩ (.int .i64 (x0 : Int))).setCell ⟨gP, 3, none⟩ (.int .i64 (x1 : Int))).setCell ⟨gP, 4, none⟩ (.int .i64 (x2 : Int)) := ⟨_, rfl⟩
      have hk9 : Kp [gP] w8 w9 := by rw [hw9]; exact (((Kp.refl _ _).set (p := ⟨gP, 2, none⟩) (.inl (by simp)) _).set (p := ⟨gP, 3, none⟩) (.inl (by simp)) _).set (p := ⟨gP, 4, none⟩) (.inl (by simp)) _
      have RD9 := hide (RD.out.box hk9 KP.out (by have := LP.out; omega) (by decide) (by decide))
      have KP9 : Hid (Blk w9 gP 25 #[.int .i64 (e : Int), .int .i64 (cc : Int), .int .i64 (x0 : Int), .int .i64 (x1 : Int), .int .i64 (x2 : Int), .slice none 0 0, .slice none 0 0]) := hide (by
        rw [hw9]
        have := ((KP.out.set 2 (.int .i64 (x0 : Int))).set 3 (.int .i64 (x1 : Int))).set 4 (.int .i64 (x2 : Int))
        simpa [List.setIfInBounds_toArray] using this)
      replace KZ := hide (KZ.out.kp hk9 (by have := LP.out; simp only [List.mem_singleton]; omega))
      replace BN := hide (BN.out.trans (hk9.below (by have := SZ.out; have := LP.out; omega) (by intro g hg; have := LP.out; simp only [List.mem_singleton] at hg; omega)))
      replace SZ := hide (Nat.le_trans SZ.out hk9.size)
      rw [← hw9]
      clear hw9 hk9 KP RD
      have KP := KP9
      have RD := RD9
      clear KP9 RD9
      go_wp2_with fail
      refine (next_rd 1 (by decide) S (gP + 1) (W.drop 4) w9 RD.out (by have := LP.out; omega)).mono ?_
      rintro r w10 ⟨rfl, hr, hk⟩
      obtain ⟨xf, hx⟩ : ∃ x : Nat, x = nx 1 (W.drop 4) := ⟨_, rfl⟩
      have Hxf := hide hx
      rw [← hx]
      clear hx
      replace KZ := hide (KZ.out.kp hk (by have := LP.out; simp only [List.mem_singleton]; omega))
      replace KP := hide (KP.out.kp hk (by simp))
      replace BN := hide (BN.out.trans (hk.below (by have := SZ.out; have := LP.out; omega) (by intro g hg; have := LP.out; simp only [List.mem_singleton] at hg; omega)))
      replace SZ := hide (Nat.le_trans SZ.out hk.size)
      replace RD := hide hr
      clear hr hk
      rw [List.drop_drop] at RD
      simp only [Nat.reduceAdd] at RD
      go_wp2_with fail
      refine (next_rd 1 (by decide) S (gP + 1) (W.drop 5) w10 RD.out (by have := LP.out; omega)).mono ?_
      rintro r w11 ⟨rfl, hr, hk⟩
      obtain ⟨xi, hx⟩ : ∃ x : Nat, x = nx 1 (W.drop 5) := ⟨_, rfl⟩
      have Hxi := hide hx
      rw [← hx]
      clear hx
      replace KZ := hide (KZ.out.kp hk (by have := LP.out; simp only [List.mem_singleton]; omega))
      replace KP := hide (KP.out.kp hk (by simp))
      replace BN := hide (BN.out.trans (hk.below (by have := SZ.out; have := LP.out; omega) (by intro g hg; have := LP.out; simp only [List.mem_singleton] at hg; omega)))
      replace SZ := hide (Nat.le_trans SZ.out hk.size)
      replace RD := hide hr
      clear hr hk
      rw [List.drop_drop] at RD
      simp only [Nat.reduceAdd] at RD
      go_wp2_with fail
      refine (next_rd 4 (by decide) S (gP + 1) (W.drop 6) w11 RD.out (by have := LP.out; omega)).mono ?_
      rintro r w12 ⟨rfl, hr, hk⟩
      obtain ⟨xs, hx⟩ : ∃ x : Nat, x = nx 4 (W.drop 6) := ⟨_, rfl⟩
      have Hxs := hide hx
      rw [← hx]
      clear hx
      replace KZ := hide (KZ.out.kp hk (by have := LP.out; simp only [List.mem_singleton]; omega))
      replace KP := hide (KP.out.kp hk (by simp))
      replace BN := hide (BN.out.trans (hk.below (by have := SZ.out; have := LP.out; omega) (by intro g hg; have := LP.out; simp only [List.mem_singleton] at hg; omega)))
      replace SZ := hide (Nat.le_trans SZ.out hk.size)
      replace RD := hide hr
      clear hr hk
      rw [List.drop_drop] at RD
      simp only [Nat.reduceAdd] at RD
      have hxs : xs < 4294967296 := by rw [Hxs.out]; exact nx4_lt _
      have hxf : xf < 256 := by rw [Hxf.out]; exact nx1_lt _
      have hxi : xi < 256 := by rw [Hxi.out]; exact nx1_lt _
      have h32 : IntKind.u32.wrap (xs : Int) = (xs : Int) := by simp [IntKind.wrap, IntKind.bits, IntKind.signed]; omega
      have hminf : ∀ (ts : Array TypeId) (t : TypeId) (w : World), (minK_DecAnsX_dec ts t #[.int .i64 (xf : Int), .int .i64 88]).run Tryd.prog w = .ok (.int .i64 ((min xf 88 : Nat) : Int)) w := fun ts t w => by
        rw [← minK_DecAnsX_dec_keep, run_min_int2]
        split <;> (congr 2; omega)
      obtain ⟨F, hF⟩ : ∃ F, F = min xf 88 := ⟨_, rfl⟩
      have HFM := hide (show F = min xf 88 ∧ F ≤ 88 from ⟨hF, by omega⟩)
      rw [← hF] at hminf
      clear hF
      go_upto_region 15 with fail
      clear hminf
      obtain ⟨L, hL⟩ : ∃ L, L = W.drop 10 := ⟨_, rfl⟩
      have HLL := hide hL
      rw [← hL] at RD
      clear hL
      have lf := fun w xs h => one_slice etyF w xs h (by decide)
      go_loopw [60] (fun y wr => ∃ (j d : Nat) (Af : Option Addr) (cs : List (List Value)), j ≤ F ∧ y = .int .i64 (j : Int) ∧ Blk wr gP 25 #[.int .i64 (e : Int), .int .i64 (cc : Int), .int .i64 (x0 : Int), .int .i64 (x1 : Int), .int .i64 (x2 : Int), .slice Af j d, .slice none 0 0] ∧ ORow w12.heap.size wr Af j d cs (pFs j L).1 ∧ RdB S wr (gP + 1) (pFs j L).2 ∧ Kp [gP, gP + 1] w12 wr) (fun y _ => F - (intOf y).toNat)
      case atStart => exact ⟨0, 0, none, [], by omega, rfl, KP.out, ORow.nil, RD.out, Kp.refl _ _⟩
      case round =>
        clear KP RD
        obtain ⟨j, d, Af, cs, hj, rfl, hP, hO, hR, hk⟩ := hrel
        have KP := hide hP
        have OR := hide hO
        have RD := hide hR
        have K2 := hide hk
        replace BN := hide (BN.out.trans (hk.below (by have := SZ.out; have := LP.out; omega) (by intro g hg; have := LP.out; simp only [List.mem_cons, List.not_mem_nil, or_false] at hg; omega)))
        have SZ2 := hide (Nat.le_trans SZ.out hk.size)
        clear hP hO hR hk
        have hF88 : F ≤ 88 := HFM.out.2
        by_cases hlj : j < F
        · obtain ⟨R, hR⟩ : ∃ R, R = (pFs j L).2 := ⟨_, rfl⟩
          have HR := hide hR
          rw [← hR] at RD
          clear hR
          have hjs : (j : Int) < (F : Int) := by omega
          have hj64 : IntKind.i64.wrap (j : Int) = (j : Int) := by rw [IntKind.wrap_i64]; omega
          obtain ⟨wj, hwj⟩ : ∃ W, W = wr := ⟨_, rfl⟩
          subst hwj
          have KJ := hide (Kp.refl [gP + 1] wj)
          have SZ0 := SZ
          replace SZ := SZ2
          go_wp2_with fail
          refine (next_rd 1 (by decide) S (gP + 1) (R) wj RD.out (by have := LP.out; omega)).mono ?_
          rintro r w14 ⟨rfl, hr, hk⟩
          obtain ⟨xa, hx⟩ : ∃ x : Nat, x = nx 1 (R) := ⟨_, rfl⟩
          have Hxa := hide hx
          rw [← hx]
          clear hx
          replace KJ := hide (KJ.out.trans hk)
          replace BN := hide (BN.out.trans (hk.below (by have := SZ.out; have := LP.out; omega) (by intro g hg; have := LP.out; simp only [List.mem_singleton] at hg; omega)))
          replace SZ := hide (Nat.le_trans SZ.out hk.size)
          replace RD := hide hr
          clear hr hk
          go_wp2_with fail
          refine (next_rd 2 (by decide) S (gP + 1) (R.drop 1) w14 RD.out (by have := LP.out; omega)).mono ?_
          rintro r w15 ⟨rfl, hr, hk⟩
          obtain ⟨xb, hx⟩ : ∃ x : Nat, x = nx 2 (R.drop 1) := ⟨_, rfl⟩
          have Hxb := hide hx
          rw [← hx]
          clear hx
          replace KJ := hide (KJ.out.trans hk)
          replace BN := hide (BN.out.trans (hk.below (by have := SZ.out; have := LP.out; omega) (by intro g hg; have := LP.out; simp only [List.mem_singleton] at hg; omega)))
          replace SZ := hide (Nat.le_trans SZ.out hk.size)
          replace RD := hide hr
          clear hr hk
          rw [List.drop_drop] at RD
          simp only [Nat.reduceAdd] at RD
          go_upto_region 17 with fail
          obtain ⟨w16, hw16⟩ : ∃ W, W = w15.alloc (.cells #[.int .i64 (xa : Int), .int .i64 (xb : Int), .slice none 0 0] 46) := ⟨_, rfl⟩
          have b16 : Below w15.heap.size w15 w16 := by rw [hw16]; exact (Below.refl _ _).alloc (Nat.le_refl _) _
          have XF : Hid (Blk w16 w15.heap.size 46 #[.int .i64 (xa : Int), .int .i64 (xb : Int), .slice none 0 0]) := hide (by rw [hw16]; exact Blk.new _ _ _)
          rw [← hw16]
          obtain ⟨gF, hgF⟩ : ∃ g, g = w15.heap.size := ⟨_, rfl⟩
          have LF := hide (show wj.heap.size ≤ gF from by rw [hgF]; exact KJ.out.size)
          rw [← hgF] at XF ⊢
          replace KJ := hide (KJ.out.trans (Kp.of_below b16))
          replace BN := hide (BN.out.trans (b16.mono (by have := SZ.out; have := LP.out; omega)))
          replace SZ := hide (Nat.le_trans SZ.out b16.size)
          replace RD := hide (RD.out.below b16)
          clear hw16 b16 hgF
          go_wp2_with fail
          refine (next_rd 1 (by decide) S (gP + 1) (R.drop 3) w16 RD.out (by have := LP.out; omega)).mono ?_
          rintro r w17 ⟨rfl, hr, hk⟩
          obtain ⟨m, hx⟩ : ∃ x : Nat, x = nx 1 (R.drop 3) := ⟨_, rfl⟩
          have Hm := hide hx
          rw [← hx]
          clear hx
          replace KJ := hide (KJ.out.trans hk)
          replace XF := hide (XF.out.kp hk (by have := LF.out; have := SZ2.out; simp only [List.mem_singleton]; omega))
          replace BN := hide (BN.out.trans (hk.below (by have := SZ.out; have := LP.out; omega) (by intro g hg; have := LP.out; simp only [List.mem_singleton] at hg; omega)))
          replace SZ := hide (Nat.le_trans SZ.out hk.size)
          replace RD := hide hr
          clear hr hk
          rw [List.drop_drop] at RD
          simp only [Nat.reduceAdd] at RD
          have hm256 : m < 256 := by rw [Hm.out]; exact nx1_lt _
          obtain ⟨R4, hR4⟩ : ∃ x, x = R.drop 4 := ⟨_, rfl⟩
          have HR4 := hide hR4
          rw [← hR4] at RD
          clear hR4
          go_wp2_with fail
          go_loopw [69] (fun y wr => ∃ (q d3 : Nat) (A3 : Option Addr), q ≤ m ∧ y = .int .i64 (q : Int) ∧ Blk wr gF 46 #[.int .i64 (xa : Int), .int .i64 (xb : Int), .slice A3 q d3] ∧ wr.ownsRow wj.heap.size 3 1 (.slice A3 q d3) q (intC (pLs q R4)) ∧ RdB S wr (gP + 1) (R4.drop (2 * q)) ∧ Kp [gP + 1] wj wr) (fun y _ => m - (intOf y).toNat)
          case atStart => exact ⟨0, 0, none, by omega, rfl, XF.out, World.ownsRow_nil _ _ _ _, RD.out, KJ.out⟩
          case round =>
            clear XF RD KJ BN SZ
            obtain ⟨q, d3, A3, hq, rfl, hX, ho, hR, hk⟩ := hrel
            have XF := hide hX
            have OW := hide ho
            have RD := hide hR
            have KJ := hide hk
            clear hX ho hR hk
            have z2 := XF.out.cell 2
            simp only [List.getElem?_toArray, List.getElem?_cons_succ, List.getElem?_cons_zero] at z2
            by_cases hlq : q < m
            · have hqs : (q : Int) < (m : Int) := by omega
              have hq64 : IntKind.i64.wrap (q : Int) = (q : Int) := by rw [IntKind.wrap_i64]; omega
              have bd := (Below.refl wr.heap.size wr).drew
              have X8 := hide (XF.out.below bd)
              have O8 := hide (own_bel OW.out bd)
              have R8 := hide (RD.out.below bd)
              have K8 := hide KJ.out.drew
              clear bd
              go_wp2_with fail
              refine wp_region_noPanic ?_
              refine wp_region_last (n := 8) (S := (fun w' => w'.cell? ⟨gF, 2, none⟩ = some (.slice A3 q d3))) (by kernel_rfl) (by rfl) (by kernel_rfl) ?_ (fun hHeld => ?_)
              · ((try dsimp only) <;> (first | trivial | assumption | go_keep))
              refine wpAnyH_take (i := 0) (v := ?_) (by simp only [List.getElem?_toArray, List.getElem?_cons_zero]; rfl) (by kernel_rfl) (by kernel_rfl) (by kernel_rfl) (fun _ _ _ h => h) (Or.inl ⟨by rfl, ?_⟩) (by assumption) ?_
              rotate_left 1
              · (intro w hSw; (try dsimp only at hSw); go_simp; try with_reducible rfl)
              try simp only [Act.put, List.setIfInBounds_toArray, List.set_cons_zero, List.set_cons_succ]
              refine wpAnyH_take (i := 1) (v := ?_) (by simp only [List.getElem?_toArray, List.getElem?_cons_succ, List.getElem?_cons_zero]; rfl) (by kernel_rfl) (by kernel_rfl) (by kernel_rfl) (fun _ _ _ h => h) (Or.inl ⟨by rfl, ?_⟩) (by assumption) ?_
              rotate_left 1
              · (intro w hSw; (try dsimp only at hSw); go_simp; try with_reducible rfl)
              try simp only [Act.put, List.setIfInBounds_toArray, List.set_cons_zero, List.set_cons_succ]
              refine wpAnyH_take (i := 2) (v := ?_) (by simp only [List.getElem?_toArray, List.getElem?_cons_succ, List.getElem?_cons_zero]; rfl) (by kernel_rfl) (by kernel_rfl) (by kernel_rfl) (fun _ _ _ h => h) (Or.inl ⟨by rfl, ?_⟩) (by assumption) ?_
              rotate_left 1
              · (intro w hSw; (try dsimp only at hSw); go_simp; try with_reducible rfl)
              try simp only [Act.put, List.setIfInBounds_toArray, List.set_cons_zero, List.set_cons_succ]
              refine wpAnyH_ready (rs := [3]) (by kernel_rfl) (by simp) ?_
              refine AllReadyH.cons (by simp only [List.getElem?_toArray, List.getElem?_cons_succ, List.getElem?_cons_zero]; rfl) (fun K hK => ?_) ?_
              rotate_left 1
              · exact AllReadyH.nil
              go_simp
              refine (next_rd 2 (by decide) S (gP + 1) (R4.drop (2 * q)) wr.drew R8.out (by have := LP.out; omega)).mono ?_; rintro r w19 ⟨rfl, hr, hk⟩; obtain ⟨xl, hx⟩ : ∃ x : Nat, x = nx 2 (R4.drop (2 * q)) := ⟨_, rfl⟩; have Hxl := hide hx; rw [← hx]; clear hx; have hxl : xl < 65536 := (by rw [Hxl.out]; exact nx2_lt _); have hne : gF ∉ [gP + 1] := (by have := LF.out; have := SZ2.out; simp only [List.mem_singleton]; omega); have X9 := hide (X8.out.kp hk hne); have O9 := hide (own_kq O8.out hk (fun g hg => by have h1 := (O8.out.lt g hg).1; have h2 := SZ2.out; simp only [List.mem_singleton]; omega)); have R9 := hide hr; have K9 := hide (K8.out.trans hk); clear hr hk hne
              refine hK.out _ _ ?_ (fun hHeld2 => ?_)
              · ((try dsimp only) <;> (exact X9.out.cell 2))
              clear hHeld
              have hHeld := hHeld2
              clear hHeld2 hK K
              try simp only [Act.put, List.setIfInBounds_toArray, List.set_cons_zero, List.set_cons_succ]
              have hsub : IntKind.i64.wrap ((xl : Int) - 1000) = (xl : Int) - 1000 := by rw [IntKind.wrap_i64]; omega
              refine wpAnyH_take (i := 4) (v := ?_) (by simp only [List.getElem?_toArray, List.getElem?_cons_succ, List.getElem?_cons_zero]; rfl) (by kernel_rfl) (by kernel_rfl) (by kernel_rfl) (fun _ _ _ h => h) (Or.inl ⟨by rfl, ?_⟩) (by assumption) ?_
              rotate_left 1
              · (intro w hSw; (try dsimp only at hSw); go_simp; try with_reducible rfl)
              try simp only [Act.put, List.setIfInBounds_toArray, List.set_cons_zero, List.set_cons_succ]
              refine wpAnyH_ready (rs := [5]) (by kernel_rfl) (by simp) ?_
              refine AllReadyH.cons (by simp only [List.getElem?_toArray, List.getElem?_cons_succ, List.getElem?_cons_zero]; rfl) (fun K hK => ?_) ?_
              rotate_left 1
              · exact AllReadyH.nil
              go_simp
              refine hK.out _ _ ?_ (fun hHeld2 => ?_)
              · ((try dsimp only) <;> (exact (X9.out.alloc _).cell 2))
              clear hHeld
              have hHeld := hHeld2
              clear hHeld2 hK K
              try simp only [Act.put, List.setIfInBounds_toArray, List.set_cons_zero, List.set_cons_succ]
              have b19 := hide ((Below.refl w19.heap.size w19).alloc (Nat.le_refl _) (.cells #[.int .i64 ((xl : Int) - 1000)] 3))
              have X91 := hide (X9.out.below b19.out)
              have O91 := hide (own_bel O9.out b19.out)
              have R91 := hide (R9.out.below b19.out)
              have K91 := hide (K9.out.trans (Kp.of_below b19.out))
              have SJ := hide (show S ≤ wj.heap.size by have := SZ2.out; have := LP.out; omega)
              refine wpAnyH_ready (rs := [6]) (by kernel_rfl) (by simp) ?_
              refine AllReadyH.cons (by simp only [List.getElem?_toArray, List.getElem?_cons_succ, List.getElem?_cons_zero]; rfl) (fun K hK => ?_) ?_
              rotate_left 1
              · exact AllReadyH.nil
              refine step_app rfl (.tmp 72) (.tmp 76) _ (by rfl) etyJ wj.heap.size (.slice A3 q d3) q _ (by rfl) O91.out (w19.heap.size + 1) (some ⟨w19.heap.size, 0, none⟩) 1 1 (intC [(xl : Int) - 1000]) (by rfl) (etyJ1 w19 _) (intC_one _) (by omega) K91.out.size ?_; intro A9 k9 w20 hown hg _; have X10 := hide (blk_grT X91.out O91.out (by decide) hg); have K10 := hide (Kp.gr8 K91.out hg (fun k hk => (O91.out.lt k hk).1)); have R10 := hide (R91.out.grO O91.out SJ.out hg (by decide) (by decide)); have O10 := hide hown; clear hown hg
              refine hK.out _ _ ?_ (fun hHeld2 => ?_)
              · ((try dsimp only) <;> (exact X10.out.cell 2))
              clear hHeld
              have hHeld := hHeld2
              clear hHeld2 hK K
              try simp only [Act.put, List.setIfInBounds_toArray, List.set_cons_zero, List.set_cons_succ]
              refine wpAnyH_take (i := 7) (v := ?_) (by simp only [List.getElem?_toArray, List.getElem?_cons_succ, List.getElem?_cons_zero]; rfl) (by kernel_rfl) (by kernel_rfl) (by kernel_rfl) (fun _ _ _ h => h) (Or.inl ⟨by rfl, ?_⟩) (by assumption) ?_
              rotate_left 1
              · (intro w hSw; (try dsimp only at hSw); go_simp; try with_reducible rfl)
              try simp only [Act.put, List.setIfInBounds_toArray, List.set_cons_zero, List.set_cons_succ]
              have z2 := X10.out.cell 2
              have f2 := X10.out.frozen 2
              simp only [List.getElem?_toArray, List.getElem?_cons_succ, List.getElem?_cons_zero] at z2
              refine wpAnyH_done (by kernel_rfl) ?_ _
              refine LastQ.step (by simp only [List.getElem?_toArray, List.getElem?_cons_succ, List.getElem?_cons_zero]; rfl) (by rfl) ?_
              go_simp
              refine NoPanic.normal ?_
              have K11 := hide (K10.out.set (p := ⟨gF, 2, none⟩) (.inr LF.out) (.slice A9 (q + 1) k9))
              have X11 := hide (X10.out.set 2 (.slice A9 (q + 1) k9))
              have O11 := hide (own_kq O10.out ((Kp.refl [gF] w20).set (p := ⟨gF, 2, none⟩) (.inl (by simp)) (.slice A9 (q + 1) k9)) (fun g hg => by
                obtain ⟨-, cs', hB⟩ := own_blkT O10.out hg
                simp only [List.mem_singleton]
                rintro rfl
                exact absurd (Blk.type X10.out hB).1 (by decide)))
              have R11 := hide (R10.out.box ((Kp.refl [gF] w20).set (p := ⟨gF, 2, none⟩) (.inl (by simp)) (.slice A9 (q + 1) k9)) X10.out (Nat.le_trans SJ.out LF.out) (by decide) (by decide))
              clear hHeld z2 f2 X10 O10 R10 K10 X91 O91 R91 K91 b19 X9 O9 R9 K9 X8 O8 R8 K8
              go_wp2_with fail
              refine ⟨⟨q + 1, k9, A9, by omega, rfl, by simpa [List.setIfInBounds_toArray] using X11.out, ?_, ?_, K11.out⟩, by simp [intOf]; omega⟩
              · have h1 := O11.out
                rw [intC_apps] at h1
                rw [pLs_succ, ← Hxl.out]
                exact h1
              · have h1 := R11.out
                rw [List.drop_drop] at h1
                rw [show 2 * (q + 1) = 2 * q + 2 by omega]
                exact h1
            · have hqm : q = m := by omega
              have hqs : ¬ (q : Int) < (m : Int) := by omega
              obtain ⟨f, hf⟩ : ∃ f, f = pF R := ⟨_, rfl⟩
              have HFV : Hid (f.ls.length = q ∧ f.ls = pLs q R4 ∧ [Value.int .i64 (xa : Int), .int .i64 (xb : Int), .slice A3 q d3] = fiV f A3 d3) := hide (by
                have e1 : f.ls = pLs q R4 := by rw [hf, hqm, Hm.out, HR4.out]; rfl
                have e2 : f.ls.length = q := by rw [e1, pLs_len]
                refine ⟨e2, e1, ?_⟩
                unfold fiV
                rw [e2, Hxa.out, Hxb.out, hf]
                rfl)
              have HPF := hide (show pFs (j + 1) L = ((pFs j L).1 ++ [f], R4.drop (2 * q)) from by
                rw [pFs, ← HR.out, ← hf, HR4.out, List.drop_drop, hqm, Hm.out]
                rfl)
              have HQB := hide (show q < 256 by omega)
              clear hqm hf
              have KW := hide (KP.out.kp KJ.out (by simp))
              have OR1 := hide (OR.out.kp KJ.out (by intro g hg; have := SZ0.out; simp only [List.mem_singleton] at hg; omega))
              have b21 := hide ((Below.refl wr.heap.size wr).alloc (Nat.le_refl _) (.cells #[.int .i64 (xa : Int), .int .i64 (xb : Int), .slice A3 q d3] 46))
              have OR2 := hide (OR1.out.kp (Kp.of_below (gs := []) b21.out) (by simp))
              have OW2 := hide (own_bel OW.out b21.out)
              have RD2 := hide (RD.out.below b21.out)
              have KW2 := hide (KW.out.below b21.out)
              have KK := hide ((K2.out.trans (Kp.mono_ KJ.out (gs' := [gP, gP + 1]) (by intro g hg; simp only [List.mem_singleton] at hg; simp [hg]))).trans (Kp.of_below b21.out))
              have SS := hide (show S ≤ w12.heap.size by have := SZ0.out; have := LP.out; omega)
              have SJ := hide (show w12.heap.size ≤ wj.heap.size from K2.out.size)
              have y5 := KW.out.cell 5
              have x1' := XF.out.cell 0
              have x2' := XF.out.cell 1
              have x3' := XF.out.cell 2
              simp only [List.getElem?_toArray, List.getElem?_cons_succ, List.getElem?_cons_zero] at y5 x1' x2' x3'
              clear KW OR1
              go_wp2_with (
                at_builtin
                refine wpList_appK rfl (.tmp 81) (.tmp 83) _ rfl etyF w12.heap.size (.slice Af j d) j cs.flatten rfl OR2.out.own (wr.heap.size + 1) (some ⟨wr.heap.size, 0, none⟩) 1 1 [.int .i64 (xa : Int), .int .i64 (xb : Int), .slice A3 q d3] rfl (slc_new wr [.int .i64 (xa : Int), .int .i64 (xb : Int), .slice A3 q d3] _ rfl) (by intro u hu; simp only [List.mem_cons, List.not_mem_nil, or_false] at hu; rcases hu with rfl | rfl | rfl <;> rfl) (by omega) KK.out.size ?_
                intro A8 c8 w21 hown hg _
                have OR3 := hide (OR2.out.app (f := f) (A3 := A3) (c3 := d3) SJ.out (fun i x g hx hg => (OR.out.lsb i x g hx hg).2) (by rw [HFV.out.1, HFV.out.2.1]; exact OW2.out) (by rw [← HFV.out.2.2]; exact hown) hg)
                have KW3 := hide (blk_grT KW2.out OR2.out.own (by decide) hg)
                have RD3 := hide (RD2.out.grO OR2.out.own SS.out hg (by decide) (by decide))
                have KK3 := hide (Kp.gr8 KK.out hg (fun g hg => (OR2.out.lt g hg).1))
                have y5' := KW3.out.cell 5
                have f5' := KW3.out.frozen 5
                simp only [List.getElem?_toArray, List.getElem?_cons_succ, List.getElem?_cons_zero] at y5'
                clear hown hg OR2 OW2 RD2 KW2 KK b21)
              clear y5 x1' x2' x3'
              have hkP : Kp [gP] w21 (w21.setCell ⟨gP, 5, none⟩ (.slice A8 (j + 1) c8)) := (Kp.refl [gP] w21).set (p := ⟨gP, 5, none⟩) (.inl (by simp)) (.slice A8 (j + 1) c8)
              go_roundw
              case rel =>
                refine ⟨j + 1, c8, A8, cs ++ [fiV f A3 d3], by omega, by go_num, by simpa [List.setIfInBounds_toArray] using KW3.out.set 5 (.slice A8 (j + 1) c8), ?_, ?_, KK3.out.set (p := ⟨gP, 5, none⟩) (.inl (by simp)) _⟩
                · rw [HPF.out]
                  exact OR3.out.kp hkP (by intro g hg; have := SZ0.out; simp only [List.mem_singleton] at hg; omega)
                · rw [HPF.out]
                  exact RD3.out.box hkP KW3.out (by have := LP.out; omega) (by decide) (by decide)
              case measure => simp [intOf]; omega
        · have hjF : j = F := by omega
          have hjs : ¬ (j : Int) < (F : Int) := by omega
          have hmini : ∀ (ts : Array TypeId) (t : TypeId) (w : World), (minK_DecAnsX_dec ts t #[.int .i64 (xi : Int), .int .i64 88]).run Tryd.prog w = .ok (.int .i64 ((min xi 88 : Nat) : Int)) w := fun ts t w => by
            rw [← minK_DecAnsX_dec_keep, run_min_int2]
            split <;> (congr 2; omega)
          obtain ⟨I, hI⟩ : ∃ I, I = min xi 88 := ⟨_, rfl⟩
          have HI := hide (show I = min xi 88 ∧ I ≤ 88 from ⟨hI, by omega⟩)
          rw [← hI] at hmini
          clear hI
          obtain ⟨wf, hwf⟩ : ∃ W, W = wr := ⟨_, rfl⟩
          subst hwf
          obtain ⟨fs, hfs⟩ : ∃ f, f = (pFs j L).1 := ⟨_, rfl⟩
          obtain ⟨L1, hL1⟩ : ∃ f, f = (pFs j L).2 := ⟨_, rfl⟩
          have HFS := hide (show fs = (pFs F L).1 ∧ L1 = (pFs F L).2 by rw [← hjF]; exact ⟨hfs, hL1⟩)
          have HBD := hide (show lsN fs ≤ 100000 ∧ ∀ f ∈ fs, ∀ x ∈ f.ls, -1000 ≤ x ∧ x < 65536 by
            have h1 := pFs_bd j L
            rw [← hfs] at h1
            exact ⟨by have := h1.1; omega, h1.2⟩)
          rw [← hfs] at OR
          rw [← hL1] at RD
          have HJ := hide (show j = F ∧ j ≤ 88 by omega)
          have hj88 : j ≤ 88 := by omega
          clear hfs hL1 hjF lf
          go_wp2_with fail
          clear hmini
          go_loopw [89] (fun y wr => ∃ (q d3 : Nat) (A3 : Option Addr), q ≤ I ∧ y = .int .i64 (q : Int) ∧ Blk wr gP 25 #[.int .i64 (e : Int), .int .i64 (cc : Int), .int .i64 (x0 : Int), .int .i64 (x1 : Int), .int .i64 (x2 : Int), .slice Af j d, .slice A3 q d3] ∧ wr.ownsRow wf.heap.size 3 1 (.slice A3 q d3) q (intC (pIs q L1)) ∧ RdB S wr (gP + 1) (L1.drop q) ∧ Kp [gP, gP + 1] wf wr) (fun y _ => I - (intOf y).toNat)
          case atStart => exact ⟨0, 0, none, by omega, rfl, KP.out, World.ownsRow_nil _ _ _ _, RD.out, Kp.refl _ _⟩
          case round =>
            clear KP RD
            obtain ⟨q, d3, A3, hq, rfl, hX, ho, hR, hk⟩ := hrel
            have XF := hide hX
            have OW := hide ho
            have RD := hide hR
            have KJ := hide hk
            have hI88 : I ≤ 88 := HI.out.2
            clear hX ho hR hk
            by_cases hlq : q < I
            · have hqs : (q : Int) < (I : Int) := by omega
              have hq64 : IntKind.i64.wrap (q : Int) = (q : Int) := by rw [IntKind.wrap_i64]; omega
              have bd := (Below.refl wr.heap.size wr).drew
              have X8 := hide (XF.out.below bd)
              have O8 := hide (own_bel OW.out bd)
              have R8 := hide (RD.out.below bd)
              have K8 := hide KJ.out.drew
              have SJ := hide (show S ≤ wf.heap.size by have := SZ2.out; have := LP.out; omega)
              clear bd
              have z6 := XF.out.cell 6
              simp only [List.getElem?_toArray, List.getElem?_cons_succ, List.getElem?_cons_zero] at z6
              go_wp2_with fail
              refine wp_region_noPanic ?_
              refine wp_region_last (n := 7) (S := (fun w' => w'.cell? ⟨gP, 6, none⟩ = some (.slice A3 q d3))) (by kernel_rfl) (by rfl) (by kernel_rfl) ?_ (fun hHeld => ?_)
              · ((try dsimp only) <;> (first | trivial | assumption | go_keep))
              clear z6
              refine wpAnyH_take (i := 0) (v := ?_) (by simp only [List.getElem?_toArray, List.getElem?_cons_zero]; rfl) (by kernel_rfl) (by kernel_rfl) (by kernel_rfl) (fun _ _ _ h => h) (Or.inl ⟨by rfl, ?_⟩) (by assumption) ?_
              rotate_left 1
              · (intro w hSw; (try dsimp only at hSw); go_simp; try with_reducible rfl)
              try simp only [Act.put, List.setIfInBounds_toArray, List.set_cons_zero, List.set_cons_succ]
              refine wpAnyH_take (i := 1) (v := ?_) (by simp only [List.getElem?_toArray, List.getElem?_cons_succ, List.getElem?_cons_zero]; rfl) (by kernel_rfl) (by kernel_rfl) (by kernel_rfl) (fun _ _ _ h => h) (Or.inl ⟨by rfl, ?_⟩) (by assumption) ?_
              rotate_left 1
              · (intro w hSw; (try dsimp only at hSw); go_simp; try with_reducible rfl)
              try simp only [Act.put, List.setIfInBounds_toArray, List.set_cons_zero, List.set_cons_succ]
              refine wpAnyH_take (i := 2) (v := ?_) (by simp only [List.getElem?_toArray, List.getElem?_cons_succ, List.getElem?_cons_zero]; rfl) (by kernel_rfl) (by kernel_rfl) (by kernel_rfl) (fun _ _ _ h => h) (Or.inl ⟨by rfl, ?_⟩) (by assumption) ?_
              rotate_left 1
              · (intro w hSw; (try dsimp only at hSw); go_simp; try with_reducible rfl)
              try simp only [Act.put, List.setIfInBounds_toArray, List.set_cons_zero, List.set_cons_succ]
              refine wpAnyH_ready (rs := [3]) (by kernel_rfl) (by simp) ?_
              refine AllReadyH.cons (by simp only [List.getElem?_toArray, List.getElem?_cons_succ, List.getElem?_cons_zero]; rfl) (fun K hK => ?_) ?_
              rotate_left 1
              · exact AllReadyH.nil
              go_simp
              refine (next_rd 1 (by decide) S (gP + 1) (L1.drop q) wr.drew R8.out (by have := LP.out; omega)).mono ?_; rintro r w19 ⟨rfl, hr, hk⟩; obtain ⟨xl, hx⟩ : ∃ x : Nat, x = nx 1 (L1.drop q) := ⟨_, rfl⟩; have Hxl := hide hx; rw [← hx]; clear hx; have hxl : xl < 256 := (by rw [Hxl.out]; exact nx1_lt _); have X9 := hide (X8.out.kp hk (by simp)); have O9 := hide (own_kq O8.out hk (fun g hg => by have h1 := (O8.out.lt g hg).1; have h2 := SZ2.out; simp only [List.mem_singleton]; omega)); have R9 := hide hr; have K9 := hide (K8.out.trans (Kp.mono_ hk (gs' := [gP, gP + 1]) (by intro g hg; simp only [List.mem_singleton] at hg; simp [hg]))); clear hr hk
              refine hK.out _ _ ?_ (fun hHeld2 => ?_)
              · ((try dsimp only) <;> (exact X9.out.cell 6))
              clear hHeld
              have hHeld := hHeld2
              clear hHeld2 hK K
              try simp only [Act.put, List.setIfInBounds_toArray, List.set_cons_zero, List.set_cons_succ]
              refine wpAnyH_ready (rs := [4]) (by kernel_rfl) (by simp) ?_
              refine AllReadyH.cons (by simp only [List.getElem?_toArray, List.getElem?_cons_succ, List.getElem?_cons_zero]; rfl) (fun K hK => ?_) ?_
              rotate_left 1
              · exact AllReadyH.nil
              go_simp
              refine hK.out _ _ ?_ (fun hHeld2 => ?_)
              · ((try dsimp only) <;> (exact (X9.out.alloc _).cell 6))
              clear hHeld
              have hHeld := hHeld2
              clear hHeld2 hK K
              try simp only [Act.put, List.setIfInBounds_toArray, List.set_cons_zero, List.set_cons_succ]
              have b19 := hide ((Below.refl w19.heap.size w19).alloc (Nat.le_refl _) (.cells #[.int .i64 (xl : Int)] 3))
              have X91 := hide (X9.out.below b19.out)
              have O91 := hide (own_bel O9.out b19.out)
              have R91 := hide (R9.out.below b19.out)
              have K91 := hide (K9.out.trans (Kp.of_below b19.out))
              refine wpAnyH_ready (rs := [5]) (by kernel_rfl) (by simp) ?_
              refine AllReadyH.cons (by simp only [List.getElem?_toArray, List.getElem?_cons_succ, List.getElem?_cons_zero]; rfl) (fun K hK => ?_) ?_
              rotate_left 1
              · exact AllReadyH.nil
              refine step_app rfl (.tmp 92) (.tmp 95) _ (by rfl) etyJ wf.heap.size (.slice A3 q d3) q _ (by rfl) O91.out (w19.heap.size + 1) (some ⟨w19.heap.size, 0, none⟩) 1 1 (intC [(xl : Int)]) (by rfl) (etyJ1 w19 _) (intC_one _) (by omega) K91.out.size ?_; intro A9 k9 w20 hown hg _; have X10 := hide (blk_grT X91.out O91.out (by decide) hg); have K10 := hide (Kp.gr8 K91.out hg (fun k hk => (O91.out.lt k hk).1)); have R10 := hide (R91.out.grO O91.out SJ.out hg (by decide) (by decide)); have O10 := hide hown; clear hown hg
              refine hK.out _ _ ?_ (fun hHeld2 => ?_)
              · ((try dsimp only) <;> (exact X10.out.cell 6))
              clear hHeld
              have hHeld := hHeld2
              clear hHeld2 hK K
              try simp only [Act.put, List.setIfInBounds_toArray, List.set_cons_zero, List.set_cons_succ]
              refine wpAnyH_take (i := 6) (v := ?_) (by simp only [List.getElem?_toArray, List.getElem?_cons_succ, List.getElem?_cons_zero]; rfl) (by kernel_rfl) (by kernel_rfl) (by kernel_rfl) (fun _ _ _ h => h) (Or.inl ⟨by rfl, ?_⟩) (by assumption) ?_
              rotate_left 1
              · (intro w hSw; (try dsimp only at hSw); go_simp; try with_reducible rfl)
              try simp only [Act.put, List.setIfInBounds_toArray, List.set_cons_zero, List.set_cons_succ]
              have z6 := X10.out.cell 6
              have f6 := X10.out.frozen 6
              simp only [List.getElem?_toArray, List.getElem?_cons_succ, List.getElem?_cons_zero] at z6
              refine wpAnyH_done (by kernel_rfl) ?_ _
              refine LastQ.step (by simp only [List.getElem?_toArray, List.getElem?_cons_succ, List.getElem?_cons_zero]; rfl) (by rfl) ?_
              go_simp
              refine NoPanic.normal ?_
              have hkP : Kp [gP] w20 (w20.setCell ⟨gP, 6, none⟩ (.slice A9 (q + 1) k9)) := (Kp.refl [gP] w20).set (p := ⟨gP, 6, none⟩) (.inl (by simp)) (.slice A9 (q + 1) k9)
              have K11 := hide (K10.out.set (p := ⟨gP, 6, none⟩) (.inl (by simp)) (.slice A9 (q + 1) k9))
              have X11 := hide (X10.out.set 6 (.slice A9 (q + 1) k9))
              have O11 := hide (own_kq O10.out hkP (fun g hg => by have h1 := (O10.out.lt g hg).1; have h2 := SZ2.out; simp only [List.mem_singleton]; omega))
              have R11 := hide (R10.out.box hkP X10.out (by have := LP.out; omega) (by decide) (by decide))
              clear hHeld z6 f6 X10 O10 R10 K10 X91 O91 R91 K91 b19 X9 O9 R9 K9 X8 O8 R8 K8 hkP
              go_wp2_with fail
              refine ⟨⟨q + 1, k9, A9, by omega, rfl, by simpa [List.setIfInBounds_toArray] using X11.out, ?_, ?_, K11.out⟩, by simp [intOf]; omega⟩
              · have h1 := O11.out
                rw [intC_apps] at h1
                rw [pIs_succ, ← Hxl.out]
                exact h1
              · have h1 := R11.out
                rw [List.drop_drop] at h1
                exact h1
            · have hqI : q = I := by omega
              have hqs : ¬ (q : Int) < (I : Int) := by omega
              have SJ := hide (show S ≤ wf.heap.size by have := SZ2.out; have := LP.out; omega)
              have BW := hide (BN.out.trans (KJ.out.below SJ.out (by intro g hg; have := LP.out; simp only [List.mem_cons, List.not_mem_nil, or_false] at hg; omega)))
              have hSn : S ∉ [gP, gP + 1] := by have := LP.out; simp only [List.mem_cons, List.not_mem_nil, or_false]; omega
              have KZW := hide ((KZ.out.kp K2.out hSn).kp KJ.out hSn)
              have ORW := hide (OR.out.kp KJ.out (by intro g hg; have := SZ.out; simp only [List.mem_cons, List.not_mem_nil, or_false] at hg; omega))
              obtain ⟨is, his⟩ : ∃ x, x = pIs q L1 := ⟨_, rfl⟩
              have HIS := hide (show is.length = q ∧ fs.length = j from ⟨by rw [his, pIs_len], ORW.out.l1⟩)
              have HV : Hid (parseC l = (⟨e, cc, x0, x1, x2, fs, is⟩, xs)) := hide (by
                unfold parseC parseW
                dsimp only
                rw [← HEC.out.1, ← HEC.out.2, ← HW.out, ← Hx0.out, ← Hx1.out, ← Hx2.out, ← Hxf.out, ← Hxi.out, ← Hxs.out, ← HLL.out, ← HFM.out.1, ← HI.out.1, ← HFS.out.1, ← HFS.out.2, his, hqI])
              have OW2 := hide (show wr.ownsRow wf.heap.size 3 1 (.slice A3 q d3) q (intC is) by rw [his]; exact OW.out)
              have XS := hide (show ∀ (j : Nat) (x : List Value) (g : Nat), cs[j]? = some x → lsB x = some g → (Value.slice A3 q d3).ownBlock ≠ some g from fun j x g hx hg he => by have h1 := (OR.out.lsb j x g hx hg).2; have h2 := (OW2.out.lt g he).1; omega)
              have SPW := hide (SP.out.bel (by rw [← HS.out]; exact BW.out))
              have hSw : S ≤ wr.heap.size := Nat.le_trans SJ.out KJ.out.size
              have h64 : ∀ f ∈ fs, ∀ x ∈ f.ls, I64 x := fun f hf x hx => by have := HBD.out.2 f hf x hx; unfold I64; omega
              clear hSn his hqI
              have y0 := XF.out.cell 0
              have y1 := XF.out.cell 1
              have y2 := XF.out.cell 2
              have y3 := XF.out.cell 3
              have y4 := XF.out.cell 4
              have y5 := XF.out.cell 5
              have y6 := XF.out.cell 6
              simp only [List.getElem?_toArray, List.getElem?_cons_succ, List.getElem?_cons_zero] at y0 y1 y2 y3 y4 y5 y6
              go_wp2_with fail
              clear y0 y1 y2 y3 y4 y5 y6
              by_cases hck : checkP e cc x0 x1 x2 fs is = 0
              rotate_left
              · have HN := hide (show ∀ v s, ¬ IsEnc l v s from fun v s hv => hck (by
                  have h1 := (parse_ok l).2 ⟨v, s, hv⟩
                  rw [HV.out] at h1
                  exact h1.1))
                refine (enc_bad e cc x0 x1 x2 xs Af A3 j d q d3 w12.heap.size w12.heap.size wf.heap.size wf.heap.size fs is wr SPW.out ORW.out.fis (RwAt.of_own OW2.out) (by omega) (by have := HI.out; omega) HBD.out.1 h64 hck).mono ?_
                rintro r w30 ⟨rfl, hb⟩
                have KZ3 := hide (KZW.out.below hb)
                have B30 := hide (BW.out.trans (hb.mono hSw))
                have hckn : (checkP e cc x0 x1 x2 fs is != 0) = true := bne_iff_ne.2 hck
                clear hb
                generalize checkP (e : Int) cc x0 x1 x2 fs is = ck at *
                have z0 := KZ3.out.cell 0
                have z1 := KZ3.out.cell 1
                have z2 := KZ3.out.cell 2
                have z3 := KZ3.out.cell 3
                have z4 := KZ3.out.cell 4
                have z5 := KZ3.out.cell 5
                have z6 := KZ3.out.cell 6
                simp only [List.getElem?_toArray, List.getElem?_cons_succ, List.getElem?_cons_zero] at z0 z1 z2 z3 z4 z5 z6
                have f0 := KZ3.out.frozen 0
                have f1 := KZ3.out.frozen 1
                have f2 := KZ3.out.frozen 2
                have f3 := KZ3.out.frozen 3
                have f4 := KZ3.out.frozen 4
                have f5 := KZ3.out.frozen 5
                have f6 := KZ3.out.frozen 6
                go_wp2_with fail
                have PS := part_set7 KZ3.out (.int .i64 0) (.int .i64 0) (.int .i64 0) (.int .i64 0) (.int .i64 0) (.slice none 0 0) (.slice none 0 0)
                refine ret_decS rfl rfl rfl PS.1 rfl ⟨.inr ⟨HN.out, rfl⟩, ?_⟩
                rw [← HS.out]
                exact B30.out.trans (PS.2.below (by have := B30.out.size; have := HS.out; omega) (by simp))
              refine (enc_good e cc x0 x1 x2 xs hxs Af A3 j d q d3 w12.heap.size w12.heap.size wf.heap.size wf.heap.size fs is wr SPW.out ORW.out.fis (RwAt.of_own OW2.out) h64 hck).mono ?_
              rintro r w30 ⟨A30, k30, rfl, ho, hb⟩
              have O30 := hide ho
              have KZ3 := hide (KZW.out.below hb)
              have B30 := hide (BW.out.trans (hb.mono hSw))
              have OR30 := hide (ORW.out.kp (Kp.of_below (gs := []) hb) (by simp))
              have OW30 := hide (own_bel OW2.out hb)
              have X30 := hide (XF.out.below hb)
              have EQ := hide (equal_any A30 A 128 128 k30 c _ _ _ l w30 (Sl.of_own ho) (RwAt.sl (HBy.out w30 B30.out)) (by decide))
              clear ho hb XF OW OW2 ORW KZW
              go_wp2_with fail
              refine EQ.out.mono ?_
              rintro r w31 ⟨rfl, k31, rfl⟩
              have bd := bel_drewN (Below.refl w30.heap.size w30) k31
              replace KZ3 := hide (KZ3.out.below bd)
              replace B30 := hide (B30.out.trans (bd.mono (by have := B30.out.size; have := HS.out; omega)))
              have OR31 := hide (OR30.out.kp (Kp.of_below (gs := []) bd) (by simp))
              have OW31 := hide (own_bel OW30.out bd)
              have X31 := hide (X30.out.below bd)
              clear bd EQ O30 OR30 OW30 X30
              generalize w30.drewN k31 = w31 at *
              have z0 := KZ3.out.cell 0
              have z1 := KZ3.out.cell 1
              have z2 := KZ3.out.cell 2
              have z3 := KZ3.out.cell 3
              have z4 := KZ3.out.cell 4
              have z5 := KZ3.out.cell 5
              have z6 := KZ3.out.cell 6
              simp only [List.getElem?_toArray, List.getElem?_cons_succ, List.getElem?_cons_zero] at z0 z1 z2 z3 z4 z5 z6
              have f0 := KZ3.out.frozen 0
              have f1 := KZ3.out.frozen 1
              have f2 := KZ3.out.frozen 2
              have f3 := KZ3.out.frozen 3
              have f4 := KZ3.out.frozen 4
              have f5 := KZ3.out.frozen 5
              have f6 := KZ3.out.frozen 6
              by_cases henc : encB e cc (wordsB x0 x1 x2 fs is xs) = l
              · have HEN := hide henc
                rw [show eqB (encB e cc (wordsB x0 x1 x2 fs is xs)) l = true by rw [henc]; exact eqB_self l]
                clear henc
                have y0 := X31.out.cell 0
                have y1 := X31.out.cell 1
                have y2 := X31.out.cell 2
                have y3 := X31.out.cell 3
                have y4 := X31.out.cell 4
                have y5 := X31.out.cell 5
                have y6 := X31.out.cell 6
                simp only [List.getElem?_toArray, List.getElem?_cons_succ, List.getElem?_cons_zero] at y0 y1 y2 y3 y4 y5 y6
                go_wp2_with fail
                have PS := part_set7 KZ3.out (.int .i64 (e : Int)) (.int .i64 (cc : Int)) (.int .i64 (x0 : Int)) (.int .i64 (x1 : Int)) (.int .i64 (x2 : Int)) (.slice Af j d) (.slice A3 q d3)
                refine ret_decS rfl rfl rfl PS.1 rfl ⟨.inl ⟨⟨e, cc, x0, x1, x2, fs, is⟩, xs, ⟨hck, hxs, HEN.out.symm⟩, Af, d, A3, d3, cs, ?_, ?_, ?_, ?_⟩, ?_⟩
                · dsimp only
                  rw [HIS.out.1]
                  exact XS.out
                · dsimp only
                  rw [HIS.out.1, HIS.out.2]
                  rfl
                · dsimp only
                  rw [HIS.out.2]
                  exact (OR31.out.kp PS.2 (by intro g hg; have := SZ.out; have := LP.out; simp only [List.mem_singleton] at hg; omega)).bq (by have := SZ.out; have := LP.out; have := HS.out; omega)
                · dsimp only
                  rw [HIS.out.1]
                  exact own_bq (own_kq OW31.out PS.2 (fun g hg => by have h1 := (OW31.out.lt g hg).1; have h2 := SZ2.out; have h3 := LP.out; simp only [List.mem_singleton]; omega)) (by have := SJ.out; have := HS.out; omega)
                · rw [← HS.out]
                  exact B30.out.trans (PS.2.below (by have := B30.out.size; have := HS.out; omega) (by simp))
              · have HN := hide (show ∀ v s, ¬ IsEnc l v s from fun v s hv => henc (by
                  have h1 := (parse_ok l).2 ⟨v, s, hv⟩
                  rw [HV.out] at h1
                  exact h1.2))
                rw [eqB_of_ne henc]
                clear henc
                go_wp2_with fail
                have PS := part_set7 KZ3.out (.int .i64 0) (.int .i64 0) (.int .i64 0) (.int .i64 0) (.int .i64 0) (.slice none 0 0) (.slice none 0 0)
                refine ret_decS rfl rfl rfl PS.1 rfl ⟨.inr ⟨HN.out, rfl⟩, ?_⟩
                rw [← HS.out]
                exact B30.out.trans (PS.2.below (by have := B30.out.size; have := HS.out; omega) (by simp))
theorem dec_any (A : Option Addr) (n c base : Nat) (l : List UInt8) (w : World) (h : ByT 0 base w A n l) (hbase : base ≤ w.heap.size) (hc : n ≤ c) (hcm : c ≤ 9223372036854775807) (sp : SpanAt w) :
    Calls Tryd.prog 20 #[.slice A n c] w fun r w' => DecAns l w.heap.size r w' ∧ Below w.heap.size w w' :=
  (dec_anyX A n c base l w h hbase hc hcm sp).mono fun _ _ h => ⟨h.1.dec, h.2⟩
end Go.Proofs.YtbamdibpkkponaaDoor

/- Lists of natural numbers as integers; a row of integers that is the call's own, or none. -/
namespace Go.Proofs.YtbamdibpkkponaaDoor
open Go.RowKit

def natsI (l : List Nat) : List Int := l.map fun (n : Nat) => (n : Int)
theorem natsI_app (l : List Nat) (n : Nat) : natsI l ++ [(n : Int)] = natsI (l ++ [n]) := by simp [natsI]
theorem natsI_len (l : List Nat) : (natsI l).length = l.length := by simp [natsI]
theorem own_lenI {w : World} {base n c : Nat} {A : Option Addr} {l : List Int} (h : w.ownsRow base 3 1 (.slice A n c) n (intC l)) : l.length = n := by
  have h1 := h.1
  rw [intC_len] at h1
  omega
def NRow (w : World) (base : Nat) (A : Option Addr) (n : Nat) (l : List Int) : Prop := l.length = n ∧ ((A = none ∧ n = 0) ∨ ∃ g cur, A = some ⟨g, 0, none⟩ ∧ base ≤ g ∧ Blk w g 3 cur ∧ ∀ (j : Nat) (u : Value), (intC l)[j]? = some u → cur[j]? = some u)
theorem nrow_of_own {w : World} {base n c : Nat} {A : Option Addr} {l : List Int} (h : w.ownsRow base 3 1 (.slice A n c) n (intC l)) : NRow w base A n l := by
  refine ⟨own_lenI h, ?_⟩
  rcases h.2 with ⟨h0, h0'⟩ | ⟨g, cap, cur, h3, h4, h5, h6, h7, h8, h9⟩
  · injection h0 with e1 e2 e3; exact .inl ⟨e1, e2⟩
  · injection h3 with e1 e2 e3
    refine .inr ⟨g, cur, e1, h4, h5, fun j u hu => ?_⟩
    rw [← h9, List.getElem?_take] at hu
    split at hu
    · simpa using hu
    · cases hu
theorem NRow.below {w w' : World} {base n : Nat} {A : Option Addr} {l : List Int} (h : NRow w base A n l) (hb : Below w.heap.size w w') : NRow w' base A n l := by
  refine ⟨h.1, ?_⟩
  rcases h.2 with h0 | ⟨g, cur, e, h1, h2, h3⟩
  · exact .inl h0
  · exact .inr ⟨g, cur, e, h1, h2.below hb, h3⟩
theorem NRow.kp {w w' : World} {base n : Nat} {A : Option Addr} {l : List Int} (h : NRow w base A n l) {gs : List Nat} (hk : Kp gs w w') (hg : ∀ g, (Value.slice A 0 0).ownBlock = some g → g ∉ gs) : NRow w' base A n l := by
  refine ⟨h.1, ?_⟩
  rcases h.2 with h0 | ⟨g, cur, rfl, h1, h2, h3⟩
  · exact .inl h0
  · exact .inr ⟨g, cur, rfl, h1, h2.kp hk (hg g rfl), h3⟩
theorem NRow.base {w : World} {base base' n : Nat} {A : Option Addr} {l : List Int} (h : NRow w base A n l) (hb : base' ≤ base) : NRow w base' A n l := by
  refine ⟨h.1, ?_⟩
  rcases h.2 with h0 | ⟨g, cur, e, h1, h2, h3⟩
  · exact .inl h0
  · exact .inr ⟨g, cur, e, Nat.le_trans hb h1, h2, h3⟩
theorem NRow.lt {w : World} {base n : Nat} {A : Option Addr} {l : List Int} (h : NRow w base A n l) : ∀ g, (Value.slice A 0 0).ownBlock = some g → base ≤ g ∧ g < w.heap.size := fun g hg => by
  rcases h.2 with ⟨rfl, -⟩ | ⟨g', cur, rfl, h1, h2, -⟩
  · cases hg
  · simp [Value.ownBlock] at hg; subst hg; exact ⟨h1, h2.lt⟩
theorem NRow.at {w : World} {base n k : Nat} {A : Option Addr} {l : List Int} (h : NRow w base A n l) (hk : k < n) : ∃ g x, l[k]? = some x ∧ A = some ⟨g, 0, none⟩ ∧ base ≤ g ∧ g < w.heap.size ∧ w.cell? ⟨g, k, none⟩ = some (.int .i64 x) ∧ w.frozen? ⟨g, k, none⟩ = false ∧ ∀ y, NRow (w.setCell ⟨g, k, none⟩ (.int .i64 y)) base A n (l.set k y) := by
  obtain ⟨hl, h2⟩ := h
  have hx : l[k]? = some (l[k]'(by omega)) := List.getElem?_eq_getElem (by omega)
  rcases h2 with ⟨-, h0⟩ | ⟨g, cur, rfl, h1, h2, h3⟩
  · omega
  · have hc := h3 k (.int .i64 (l[k]'(by omega))) (by rw [intC, List.getElem?_map, hx]; rfl)
    refine ⟨g, _, hx, rfl, h1, h2.lt, by rw [h2.cell]; exact hc, h2.frozen k, fun y => ⟨by rw [List.length_set]; exact hl, .inr ⟨g, _, rfl, h1, h2.set k _, fun j u hu => ?_⟩⟩⟩
    rw [intC, List.getElem?_map, List.getElem?_set] at hu
    rw [Array.getElem?_setIfInBounds]
    split at hu
    · rename_i e
      subst e
      rw [if_pos rfl, if_pos (Array.getElem?_eq_some_iff.1 hc).1]
      split at hu
      · simpa using hu
      · cases hu
    · rename_i e
      rw [if_neg e]
      exact h3 j u (by rw [intC, List.getElem?_map]; exact hu)
theorem sl_of_nrow {w : World} {base n : Nat} {A : Option Addr} {l : List Int} (h : NRow w base A n l) : Sl w w.heap.size A n (intC l) := by
  refine ⟨by rw [intC_len]; exact h.1, fun j u hu => ?_⟩
  rcases h.2 with ⟨-, h0⟩ | ⟨g, cur, rfl, -, h2, h3⟩
  · exfalso
    have := (List.getElem?_eq_some_iff.1 hu).1
    rw [intC_len, h.1] at this
    omega
  · exact ⟨_, rfl, h2.lt, by rw [Addr.add_mid, Nat.zero_add, h2.cell]; exact h3 j u hu⟩

end Go.Proofs.YtbamdibpkkponaaDoor
