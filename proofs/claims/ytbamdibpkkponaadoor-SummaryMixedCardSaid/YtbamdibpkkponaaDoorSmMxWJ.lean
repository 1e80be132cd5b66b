import Derived.Test.YtbamdibpkkponaaDoorJb15
set_option linter.unusedVariables false
set_option linter.unusedSimpArgs false
/- Blocks with sectors of two summaries, in plain lists. -/
namespace Go.Proofs.YtbamdibpkkponaaDoor
open Go.RowKit

def bitK (k s : Nat) : Prop := k / 2 ^ s % 2 = 1
instance (k s : Nat) : Decidable (bitK k s) := by unfold bitK; infer_instance
def mixB (k : Nat) (A B : List UInt8) (n : Nat) : List UInt8 := (List.range n).flatMap fun s => if bitK k s then (A.drop (16 * s)).take 16 else (B.drop (16 * s)).take 16
theorem mixB_succ (k : Nat) (A B : List UInt8) (n : Nat) : mixB k A B (n + 1) = mixB k A B n ++ if bitK k n then (A.drop (16 * n)).take 16 else (B.drop (16 * n)).take 16 := by
  simp [mixB, List.range_succ]
theorem fm_len {f : Nat → List UInt8} (hf : ∀ s, s < 8 → (f s).length = 16) : ∀ m, m ≤ 8 → ((List.range m).flatMap f).length = 16 * m := by
  intro m
  induction m with
  | zero => intro _; rfl
  | succ m ih => intro hm; rw [List.range_succ, List.flatMap_append, List.length_append, ih (by omega)]; simp [hf m (by omega)]; omega
theorem fm_at {f : Nat → List UInt8} (hf : ∀ s, s < 8 → (f s).length = 16) : ∀ k, k ≤ 8 → ∀ s, s < k → ∀ r, (((List.range k).flatMap f ++ r).drop (16 * s)).take 16 = f s
  | 0, _, s, hs, _ => by omega
  | k + 1, hk, s, hs, r => by
    rw [List.range_succ, List.flatMap_append, List.append_assoc]
    by_cases h : s < k
    · exact fm_at hf k (by omega) s h _
    · have : s = k := by omega
      subst this
      rw [drop_app _ _ _ (fm_len hf s (by omega))]
      simp only [List.flatMap_cons, List.flatMap_nil, List.append_nil]
      rw [List.take_append_of_le_length (by rw [hf s (by omega)]; exact Nat.le_refl _), List.take_of_length_le (by rw [hf s (by omega)]; exact Nat.le_refl _)]
theorem sect_len {A : List UInt8} (hA : A.length = 128) {s : Nat} (hs : s < 8) : ((A.drop (16 * s)).take 16).length = 16 := by
  rw [List.length_take, List.length_drop]; omega
theorem mix_f {k : Nat} {A B : List UInt8} (hA : A.length = 128) (hB : B.length = 128) : ∀ s, s < 8 → (if bitK k s then (A.drop (16 * s)).take 16 else (B.drop (16 * s)).take 16).length = 16 := fun s hs => by
  split
  · exact sect_len hA hs
  · exact sect_len hB hs
theorem mix_at {k : Nat} {A B : List UInt8} (hA : A.length = 128) (hB : B.length = 128) {s : Nat} (hs : s < 8) : ((mixB k A B 8).drop (16 * s)).take 16 = if bitK k s then (A.drop (16 * s)).take 16 else (B.drop (16 * s)).take 16 := by
  have := fm_at (mix_f (k := k) hA hB) 8 (by omega) s hs []
  rwa [List.append_nil] at this
theorem secs_whole {A : List UInt8} (hA : A.length = 128) : ((List.range 8).flatMap fun s => (A.drop (16 * s)).take 16) = A := by
  have hk : ∀ k, k ≤ 8 → ((List.range k).flatMap fun s => (A.drop (16 * s)).take 16) = A.take (16 * k) := by
    intro k
    induction k with
    | zero => intro _; rfl
    | succ k ih =>
      intro hk
      rw [List.range_succ, List.flatMap_append, ih (by omega)]
      simp only [List.flatMap_cons, List.flatMap_nil, List.append_nil]
      rw [Nat.mul_succ, List.take_add]
  rw [hk 8 (by omega), List.take_of_length_le (by omega)]
theorem mix_all {k : Nat} {A B : List UInt8} (hA : A.length = 128) (h : ∀ s, s < 8 → bitK k s) : mixB k A B 8 = A := by
  have : mixB k A B 8 = (List.range 8).flatMap fun s => (A.drop (16 * s)).take 16 := by
    unfold mixB
    simp only [List.range_succ, List.range_zero, List.nil_append, List.flatMap_append, List.flatMap_cons, List.flatMap_nil, List.append_nil]
    rw [if_pos (h 0 (by omega)), if_pos (h 1 (by omega)), if_pos (h 2 (by omega)), if_pos (h 3 (by omega)), if_pos (h 4 (by omega)), if_pos (h 5 (by omega)), if_pos (h 6 (by omega)), if_pos (h 7 (by omega))]
  rw [this, secs_whole hA]
theorem mix_none {k : Nat} {A B : List UInt8} (hB : B.length = 128) (h : ∀ s, s < 8 → ¬ bitK k s) : mixB k A B 8 = B := by
  have : mixB k A B 8 = (List.range 8).flatMap fun s => (B.drop (16 * s)).take 16 := by
    unfold mixB
    simp only [List.range_succ, List.range_zero, List.nil_append, List.flatMap_append, List.flatMap_cons, List.flatMap_nil, List.append_nil]
    rw [if_neg (h 0 (by omega)), if_neg (h 1 (by omega)), if_neg (h 2 (by omega)), if_neg (h 3 (by omega)), if_neg (h 4 (by omega)), if_neg (h 5 (by omega)), if_neg (h 6 (by omega)), if_neg (h 7 (by omega))]
  rw [this, secs_whole hB]
theorem enc_sec {v : PV} (h : v.ck = 0) (z : Nat) {s : Nat} (hs : s < 8) : ((nx 2 (((v.enc z).drop (16 * s)).take 16) : Nat) : Int) = v.e ∧ ((nx 2 ((((v.enc z).drop (16 * s)).take 16).drop 2) : Nat) : Int) = v.c := by
  obtain ⟨⟨⟨h1, h2, h3, h4, h5⟩, hf, hi⟩, hz⟩ := PV.gd h
  have hw : (wordsB v.i v.p v.x v.fs v.is z).length = 88 := wordsB_len hz
  have he := encB_at (e := v.e) (c := v.c) hw hs
  have hl := secB_len (e := v.e) (c := v.c) hw hs
  have : ((v.enc z).drop (16 * s)).take 16 = secB v.e v.c (wordsB v.i v.p v.x v.fs v.is z) s := by
    unfold PV.enc
    rw [he, List.take_append_of_le_length (by omega), List.take_of_length_le (by omega)]
  rw [this]
  have e1 : secB v.e v.c (wordsB v.i v.p v.x v.fs v.is z) s = tw v.e ++ (tw v.c ++ ([b8 (s : Nat)] ++ ((wordsB v.i v.p v.x v.fs v.is z).drop (11 * s)).take 11)) := by simp [secB]
  rw [e1]
  constructor
  · rw [nx2_tw]; omega
  · rw [drop_app _ _ 2 (tw_len _), nx2_tw]; omega
set_option maxRecDepth 100000 in
theorem bits_two : ∀ k : Fin 256, k.1 ≠ 0 → k.1 ≠ 255 → (∃ s : Fin 8, bitK k.1 s.1) ∧ ∃ s : Fin 8, ¬ bitK k.1 s.1 := by decide
theorem mix_no {v u : PV} (hv : v.ck = 0) (hu : u.ck = 0) (hne : ¬ (v.e = u.e ∧ v.c = u.c)) {k : Nat} (hk : k < 256) (h0 : k ≠ 0) (h1 : k ≠ 255) (a b : Nat) : ∀ x z, ¬ IsEnc (mixB k (v.enc a) (u.enc b) 8) x z := by
  rintro x z ⟨hx, hz, he⟩
  obtain ⟨⟨s, hs⟩, ⟨t, ht⟩⟩ := bits_two ⟨k, hk⟩ h0 h1
  have hA := PV.enc_len hv a
  have hB := PV.enc_len hu b
  have e1 := mix_at (k := k) hA hB s.2
  have e2 := mix_at (k := k) hA hB t.2
  rw [he] at e1 e2
  rw [if_pos hs] at e1
  rw [if_neg ht] at e2
  have x1 := enc_sec hx z s.2
  have x2 := enc_sec hx z t.2
  rw [e1] at x1
  rw [e2] at x2
  have y1 := enc_sec hv a s.2
  have y2 := enc_sec hu b t.2
  exact hne ⟨by rw [← y1.1, x1.1, ← x2.1, y2.1], by rw [← y1.2, x1.2, ← x2.2, y2.2]⟩
theorem bit_all : ∀ s, s < 8 → bitK 255 s := by decide
theorem bit_none : ∀ s, s < 8 → ¬ bitK 0 s := by decide
end Go.Proofs.YtbamdibpkkponaaDoor

/- The walk of SummaryMixed (printed by gen_smmix.py). -/
namespace Go.Proofs.YtbamdibpkkponaaDoor
open Go.RowKit
attribute [local go_sem ↓] Go.wp_at_zero Go.wp_at_succ

theorem EncAns.up {v : PV} {s base base' : Nat} {r : Ending} {w' : World} (h : EncAns v s base r w') (hb : base' ≤ base) : EncAns v s base' r w' := by
  rcases h with ⟨h, A, k, e, ho⟩ | h
  · exact .inl ⟨h, A, k, e, own_bq ho hb⟩
  · exact .inr h
theorem run_secM {w : World} {A : Option Addr} {c k : Nat} (hk : k < 8) (hc : 128 ≤ c) : (Instr.slice 30 (.slice A 128 c) (some (.int .i64 (16 * (k : Int)))) (some (.int .i64 (16 * (k : Int) + 16))) none).run Tryd.prog w = .ok (.slice (cutA A c (16 * k)) 16 (c - 16 * k)) w := by
  have := run_cut_lh (P := Tryd.prog) etyB A 128 c w (16 * k) (16 * k + 16) .i64 .i64 (by omega) (by omega)
  rw [show 16 * k + 16 - 16 * k = 16 by omega] at this
  rw [show (16 * (k : Int)) = ((16 * k : Nat) : Int) by omega, show (((16 * k : Nat) : Int) + 16) = ((16 * k + 16 : Nat) : Int) by omega]
  exact this
theorem by_secM {w : World} {B c k : Nat} {A : Option Addr} {l : List UInt8} (h : By w B A 128 l) (hk : k < 8) (hc : 128 ≤ c) : By w B (cutA A c (16 * k)) 16 ((l.drop (16 * k)).take 16) := by
  have := Sl.cut h (i := 16 * k) (j := 16 * k + 16) (cap := c) (by omega) (by omega) (by omega)
  rw [show 16 * k + 16 - 16 * k = 16 by omega, u8s_drop, u8s_take] at this
  exact this
theorem and8M (a : Nat) (h : a < 256) : bits BinOp.and IntKind.u8 (a : Int) 1 = ((a % 2 : Nat) : Int) := by
  show IntKind.u8.wrap ((BitVec.ofInt 8 (a : Int) &&& BitVec.ofInt 8 1).toNat : Int) = _
  have h1 : (BitVec.ofInt 8 (a : Int) &&& BitVec.ofInt 8 1).toNat = a % 2 := by
    rw [BitVec.toNat_and]
    have : (BitVec.ofInt 8 (a : Int)).toNat = a := by rw [BitVec.toNat_ofInt]; omega
    rw [this]
    show a &&& 1 = _
    rw [Nat.and_one_is_mod]
  rw [h1]
  simp [IntKind.wrap, IntKind.bits, IntKind.signed]
  omega
set_option maxRecDepth 100000 in
set_option maxHeartbeats 4000000 in
theorem mixed_all (v u : PV) (k : Nat) (hk : k < 256) (A1 A2 G1 G2 : Option Addr) (n1 c1 n2 c2 m1 e1 m2 e2 : Nat) (w : World) (sp : SpanAt w) (hf : FisAt 0 w.heap.size w A1 n1 v.fs) (hi : IntsAt 0 w.heap.size w A2 n2 v.is)
    (hf' : FisAt 0 w.heap.size w G1 m1 u.fs) (hi' : IntsAt 0 w.heap.size w G2 m2 u.is)
    (hn1 : n1 ≤ 9223372036854775807) (hn2 : n2 ≤ 9223372036854775807) (hl : ∀ f ∈ v.fs, (∀ x ∈ f.ls, I64 x) ∧ f.ls.length ≤ 9223372036854775807) (hm1 : m1 ≤ 9223372036854775807) (hm2 : m2 ≤ 9223372036854775807) (hl' : ∀ f ∈ u.fs, (∀ x ∈ f.ls, I64 x) ∧ f.ls.length ≤ 9223372036854775807) :
    Calls Tryd.prog 5 #[.agg (partC v.e v.c v.i v.p v.x A1 n1 c1 A2 n2 c2), .agg (partC u.e u.c u.i u.p u.x G1 m1 e1 G2 m2 e2), .int .u8 (k : Int)] w fun r w' => r = .returned (.bool true) ∧ Below w.heap.size w w' := by
  have HF := hide hf
  have HI := hide hi
  have HG := hide hf'
  have HJ := hide hi'
  have SP := hide sp
  have HL := hide hl
  have HL' := hide hl'
  have H64 := hide (fun f hf => (hl f hf).1)
  have H64' := hide (fun f hf => (hl' f hf).1)
  clear hf hi sp hl hf' hi' hl'
  unfold partC
  go_enter Tryd.func5, Tryd.ntmps5
  go_upto_region 1 with fail
  obtain ⟨w1, hw⟩ : ∃ W, W = (w.alloc (.cells #[.int .i64 v.e, .int .i64 v.c, .int .i64 v.i, .int .i64 v.p, .int .i64 v.x, .slice A1 n1 c1, .slice A2 n2 c2] 25)).alloc (.cells #[.int .i64 u.e, .int .i64 u.c, .int .i64 u.i, .int .i64 u.p, .int .i64 u.x, .slice G1 m1 e1, .slice G2 m2 e2] 25) := ⟨_, rfl⟩
  have X3 : Hid (Blk w1 w.heap.size 25 #[.int .i64 v.e, .int .i64 v.c, .int .i64 v.i, .int .i64 v.p, .int .i64 v.x, .slice A1 n1 c1, .slice A2 n2 c2]) := hide (by rw [hw]; exact (Blk.new _ _ _).alloc _)
  have X4 : Hid (Blk w1 (w.heap.size + 1) 25 #[.int .i64 u.e, .int .i64 u.c, .int .i64 u.i, .int .i64 u.p, .int .i64 u.x, .slice G1 m1 e1, .slice G2 m2 e2]) := hide (by
    rw [hw]
    have := Blk.new (w.alloc (.cells #[.int .i64 v.e, .int .i64 v.c, .int .i64 v.i, .int .i64 v.p, .int .i64 v.x, .slice A1 n1 c1, .slice A2 n2 c2] 25)) 25 #[.int .i64 u.e, .int .i64 u.c, .int .i64 u.i, .int .i64 u.p, .int .i64 u.x, .slice G1 m1 e1, .slice G2 m2 e2]
    rwa [World.size_alloc] at this)
  have B1 : Hid (Below w.heap.size w w1) := hide (by rw [hw]; exact ((Below.refl _ _).alloc (Nat.le_refl _) _).alloc (by simp) _)
  rw [← hw]
  obtain ⟨g3, hg⟩ : ∃ g, g = w.heap.size := ⟨_, rfl⟩
  rw [← hg] at X3 X4 ⊢
  clear hw hg
  go_wp2_with fail
  refine (awake_any w1 (SP.out.bel B1.out)).mono ?_
  rintro r w2 ⟨rfl, hb⟩
  have BW := B1
  replace X3 := hide (X3.out.below hb)
  replace X4 := hide (X4.out.below hb)
  replace BW := hide (BW.out.trans (hb.mono BW.out.size))
  clear hb B1
  have y0 := X3.out.cell 0
  have y1 := X3.out.cell 1
  have y2 := X3.out.cell 2
  have y3 := X3.out.cell 3
  have y4 := X3.out.cell 4
  have y5 := X3.out.cell 5
  have y6 := X3.out.cell 6
  simp only [List.getElem?_toArray, List.getElem?_cons_succ, List.getElem?_cons_zero] at y0 y1 y2 y3 y4 y5 y6
  go_wp2_with fail
  clear y0 y1 y2 y3 y4 y5 y6
  refine (few_any v.e v.c v.i v.p v.x A1 A2 n1 c1 n2 c2 _ _ v.fs w2 (HF.out.below BW.out) hn1 hn2 (fun f hf => (HL.out f hf).2)).mono ?_
  rintro r w3 ⟨⟨b, rfl, hfw⟩, hb⟩
  replace X3 := hide (X3.out.below hb)
  replace X4 := hide (X4.out.below hb)
  replace BW := hide (BW.out.trans (hb.mono BW.out.size))

  clear hb
  cases b with
  | false =>
    clear hfw
    go_wp2_with fail
    refine (awake_any w3 (SP.out.bel BW.out)).mono ?_
    rintro r w4 ⟨rfl, hb⟩
    have B4 := hide (BW.out.trans (hb.mono BW.out.size))
    clear hb
    go_wp2_with fail
    go_ret
    exact ⟨rfl, B4.out⟩
  | true =>
    obtain ⟨hn40, hn150, hls150⟩ := hfw rfl
    have HLS := hide (lsN_all (M := 150) (by omega : lsN v.fs ≤ 150))
    have hls2 : lsN v.fs ≤ 150 := by omega
    clear hfw hls150
    have y0 := X4.out.cell 0
    have y1 := X4.out.cell 1
    have y2 := X4.out.cell 2
    have y3 := X4.out.cell 3
    have y4 := X4.out.cell 4
    have y5 := X4.out.cell 5
    have y6 := X4.out.cell 6
    simp only [List.getElem?_toArray, List.getElem?_cons_succ, List.getElem?_cons_zero] at y0 y1 y2 y3 y4 y5 y6
    go_wp2_with fail
    clear y0 y1 y2 y3 y4 y5 y6
    refine (few_any u.e u.c u.i u.p u.x G1 G2 m1 e1 m2 e2 _ _ u.fs w3 (HG.out.below BW.out) hm1 hm2 (fun f hf => (HL'.out f hf).2)).mono ?_
    rintro r w4 ⟨⟨b, rfl, hfw⟩, hb⟩
    replace X3 := hide (X3.out.below hb)
    replace X4 := hide (X4.out.below hb)
    replace BW := hide (BW.out.trans (hb.mono BW.out.size))

    clear hb
    cases b with
    | false =>
      clear hfw
      go_wp2_with fail
      refine (awake_any w4 (SP.out.bel BW.out)).mono ?_
      rintro r w4 ⟨rfl, hb⟩
      have B4 := hide (BW.out.trans (hb.mono BW.out.size))
      clear hb
      go_wp2_with fail
      go_ret
      exact ⟨rfl, B4.out⟩
    | true =>
      obtain ⟨hm40, hm150, hls150⟩ := hfw rfl
      have HLS' := hide (lsN_all (M := 150) (by omega : lsN u.fs ≤ 150))
      have hls2' : lsN u.fs ≤ 150 := by omega
      clear hfw hls150
      have y0 := X3.out.cell 0
      have y1 := X3.out.cell 1
      have z0 := X4.out.cell 0
      have z1 := X4.out.cell 1
      simp only [List.getElem?_toArray, List.getElem?_cons_succ, List.getElem?_cons_zero] at y0 y1 z0 z1
      by_cases he : v.e = u.e
      · by_cases hc : v.c = u.c
        · go_wp2_with fail
          refine (awake_any w4 (SP.out.bel BW.out)).mono ?_
          rintro r w4 ⟨rfl, hb⟩
          have B4 := hide (BW.out.trans (hb.mono BW.out.size))
          clear hb
          go_wp2_with fail
          go_ret
          exact ⟨rfl, B4.out⟩
        · have HNE := hide (show ¬ (v.e = u.e ∧ v.c = u.c) from fun h => hc h.2)
          go_upto_region 3 with fail
          clear hc he
          clear y0 y1 z0 z1
          have y0 := X3.out.cell 0
          have y1 := X3.out.cell 1
          have y2 := X3.out.cell 2
          have y3 := X3.out.cell 3
          have y4 := X3.out.cell 4
          have y5 := X3.out.cell 5
          have y6 := X3.out.cell 6
          simp only [List.getElem?_toArray, List.getElem?_cons_succ, List.getElem?_cons_zero] at y0 y1 y2 y3 y4 y5 y6
          go_wp2_with fail
          clear y0 y1 y2 y3 y4 y5 y6
          refine (own_any v.e v.c v.i v.p v.x A1 A2 n1 c1 n2 c2 _ _ _ _ v.fs v.is w4 (HF.out.below BW.out) (RwAt.below HI.out BW.out) (by omega) (by omega) (fun f hf => Nat.le_trans (HLS.out f hf) (by decide))).mono ?_
          rintro r w5 ⟨B1, d1, B2, d2, rfl, hf2, hi2, hb⟩
          have F4 := hide hf2
          have I4 := hide hi2
          replace X3 := hide (X3.out.below hb)
          replace X4 := hide (X4.out.below hb)
          replace BW := hide (BW.out.trans (hb.mono BW.out.size))

          clear hf2 hi2 hb
          unfold partC
          go_wp2_with fail
          refine (enc_any v 1 (by decide) B1 B2 n1 d1 n2 d2 _ _ _ _ w5 (SP.out.bel BW.out) F4.out I4.out (by omega) (by omega) (by omega) H64.out).mono ?_
          rintro r w6 ⟨ha, hb⟩
          have EA := hide (EncAns.up ha (Nat.zero_le _))
          replace X3 := hide (X3.out.below hb)
          replace X4 := hide (X4.out.below hb)
          replace BW := hide (BW.out.trans (hb.mono BW.out.size))

          clear ha hb F4 I4
          obtain ⟨EV, hEV⟩ : ∃ x, x = v.enc 1 := ⟨_, rfl⟩
          have HEV := hide hEV
          clear hEV
          rcases EA.out with ⟨hckv, Av, kv, rfl, hov⟩ | ⟨hckv, rfl⟩
          rotate_left
          · have hckn : (v.ck != 0) = true := bne_iff_ne.2 hckv
            clear EA hckv
            have y0 := X4.out.cell 0
            have y1 := X4.out.cell 1
            have y2 := X4.out.cell 2
            have y3 := X4.out.cell 3
            have y4 := X4.out.cell 4
            have y5 := X4.out.cell 5
            have y6 := X4.out.cell 6
            simp only [List.getElem?_toArray, List.getElem?_cons_succ, List.getElem?_cons_zero] at y0 y1 y2 y3 y4 y5 y6
            go_wp2_with fail
            clear y0 y1 y2 y3 y4 y5 y6
            refine (own_any u.e u.c u.i u.p u.x G1 G2 m1 e1 m2 e2 _ _ _ _ u.fs u.is w6 (HG.out.below BW.out) (RwAt.below HJ.out BW.out) (by omega) (by omega) (fun f hf => Nat.le_trans (HLS'.out f hf) (by decide))).mono ?_
            rintro r w7 ⟨B1, d1, B2, d2, rfl, hf2, hi2, hb⟩
            have F4 := hide hf2
            have I4 := hide hi2
            replace X3 := hide (X3.out.below hb)
            replace X4 := hide (X4.out.below hb)
            replace BW := hide (BW.out.trans (hb.mono BW.out.size))

            clear hf2 hi2 hb
            unfold partC
            go_wp2_with fail
            refine (enc_any u 2 (by decide) B1 B2 m1 d1 m2 d2 _ _ _ _ w7 (SP.out.bel BW.out) F4.out I4.out (by omega) (by omega) (by omega) H64'.out).mono ?_
            rintro r w8 ⟨ha, hb⟩
            have EB := hide (EncAns.up ha (Nat.zero_le _))
            replace X3 := hide (X3.out.below hb)
            replace X4 := hide (X4.out.below hb)
            replace BW := hide (BW.out.trans (hb.mono BW.out.size))

            clear ha hb F4 I4
            obtain ⟨xb, yb, rfl⟩ : ∃ x y, r = .returned (.tuple #[x, y]) := by
              rcases EB.out with ⟨-, A, q, rfl, -⟩ | ⟨-, rfl⟩
              · exact ⟨_, _, rfl⟩
              · exact ⟨_, _, rfl⟩
            go_wp2_with fail
            go_ret
            exact ⟨rfl, BW.out⟩
          rw [← HEV.out] at hov
          have OV := hide hov
          clear EA hov
          have y0 := X4.out.cell 0
          have y1 := X4.out.cell 1
          have y2 := X4.out.cell 2
          have y3 := X4.out.cell 3
          have y4 := X4.out.cell 4
          have y5 := X4.out.cell 5
          have y6 := X4.out.cell 6
          simp only [List.getElem?_toArray, List.getElem?_cons_succ, List.getElem?_cons_zero] at y0 y1 y2 y3 y4 y5 y6
          go_wp2_with fail
          clear y0 y1 y2 y3 y4 y5 y6
          refine (own_any u.e u.c u.i u.p u.x G1 G2 m1 e1 m2 e2 _ _ _ _ u.fs u.is w6 (HG.out.below BW.out) (RwAt.below HJ.out BW.out) (by omega) (by omega) (fun f hf => Nat.le_trans (HLS'.out f hf) (by decide))).mono ?_
          rintro r w7 ⟨B1, d1, B2, d2, rfl, hf2, hi2, hb⟩
          have F4 := hide hf2
          have I4 := hide hi2
          replace X3 := hide (X3.out.below hb)
          replace X4 := hide (X4.out.below hb)
          replace BW := hide (BW.out.trans (hb.mono BW.out.size))
          replace OV := hide (own_bel OV.out hb)

          clear hf2 hi2 hb
          unfold partC
          go_wp2_with fail
          refine (enc_any u 2 (by decide) B1 B2 m1 d1 m2 d2 _ _ _ _ w7 (SP.out.bel BW.out) F4.out I4.out (by omega) (by omega) (by omega) H64'.out).mono ?_
          rintro r w8 ⟨ha, hb⟩
          have EB := hide (EncAns.up ha (Nat.zero_le _))
          replace X3 := hide (X3.out.below hb)
          replace X4 := hide (X4.out.below hb)
          replace BW := hide (BW.out.trans (hb.mono BW.out.size))
          replace OV := hide (own_bel OV.out hb)

          clear ha hb F4 I4
          obtain ⟨EU, hEU⟩ : ∃ x, x = u.enc 2 := ⟨_, rfl⟩
          have HEU := hide hEU
          clear hEU
          rcases EB.out with ⟨hcku, Au, ku, rfl, hou⟩ | ⟨hcku, rfl⟩
          rotate_left
          · have hckn : (u.ck != 0) = true := bne_iff_ne.2 hcku
            clear EB hcku
            go_wp2_with fail
            go_ret
            exact ⟨rfl, BW.out⟩
          rw [← HEU.out] at hou
          have OU := hide hou
          clear EB hou
          have CK := hide (show 128 ≤ kv ∧ 128 ≤ ku by
            obtain ⟨_, _, e1, h1, h2⟩ := own_form OV.out
            injection e1 with e1 e2 e3
            obtain ⟨_, _, e4, h3, h4⟩ := own_form OU.out
            injection e4 with e4 e5 e6
            omega)
          have HLN := hide (show EV.length = 128 ∧ EU.length = 128 from ⟨by rw [HEV.out]; exact PV.enc_len hckv 1, by rw [HEU.out]; exact PV.enc_len hcku 2⟩)
          go_upto_region 9 with fail
          obtain ⟨wf, hwf⟩ : ∃ W, W = w8 := ⟨_, rfl⟩
          rw [← hwf]
          rw [← hwf] at X3 X4 BW OV OU
          clear hwf
          go_loopw [11, 12] (fun x y wr => ∃ (s kr : Nat) (Ar : Option Addr), s ≤ 8 ∧ y = .int .i64 (s : Int) ∧ x = .slice Ar (16 * s) kr ∧ OwnBy wr wf.heap.size Ar (16 * s) kr (mixB k EV EU s) ∧ Below wf.heap.size wf wr) (fun _ y _ => 8 - (intOf y).toNat)
          case atStart => exact ⟨0, 0, none, by omega, rfl, rfl, World.ownsRow_nil _ _ _ _, Below.refl _ _⟩
          case round =>
            obtain ⟨s, kr, Ar, hs, rfl, rfl, ho, hb⟩ := hrel
            have O7 := hide ho
            have B7 := hide hb
            clear ho hb
            by_cases hls : s < 8
            · have hss : (s : Int) < 8 := by omega
              have hs64 : IntKind.i64.wrap (s : Int) = (s : Int) := by rw [IntKind.wrap_i64]; omega
              have h0 : IntKind.i64.wrap (16 * (s : Int)) = 16 * (s : Int) := by rw [IntKind.wrap_i64]; omega
              have h16 : IntKind.i64.wrap (16 * (s : Int) + 16) = 16 * (s : Int) + 16 := by rw [IntKind.wrap_i64]; omega
              have cu1 := run_secM (A := Av) (c := kv) (w := wr) hls CK.out.1
              have cu2 := run_secM (A := Au) (c := ku) (w := wr) hls CK.out.2
              have e8 : ((k : Int) / 2 ^ s) = ((k / 2 ^ s : Nat) : Int) := by simp
              have e9 := and8M (k / 2 ^ s) (Nat.lt_of_le_of_lt (Nat.div_le_self _ _) hk)
              by_cases hbit : bitK k s
              · have hb1 : (bits BinOp.and IntKind.u8 ((k : Int) / 2 ^ s) 1 == 1) = true := by
                  rw [e8, e9, beq_iff_eq]; unfold bitK at hbit; omega
                have HBIT := hide hbit
                clear hbit e8 e9
                go_wp2_with (
                  at_builtin
                  refine wpList_appB (.tmp 70) (.tmp 77) O7.out (by_secM ((own_byS OV.out).below B7.out) hls CK.out.1) B7.out rfl rfl rfl rfl (by omega) B7.out.size ?_
                  intro A9 k9 w9 O9 B9)
                go_roundw
                case rel =>
                  exact ⟨s + 1, k9, A9, by omega, by go_num, by rw [Nat.mul_succ], by rw [Nat.mul_succ, mixB_succ, if_pos HBIT.out]; exact O9.out, B9.out⟩
                case measure => simp [intOf]; omega
              · have hb1 : (bits BinOp.and IntKind.u8 ((k : Int) / 2 ^ s) 1 == 1) = false := by
                  rw [e8, e9, beq_eq_false_iff_ne]; unfold bitK at hbit; omega
                have HBIT := hide hbit
                clear hbit e8 e9
                go_wp2_with (
                  at_builtin
                  refine wpList_appB (.tmp 79) (.tmp 86) O7.out (by_secM ((own_byS OU.out).below B7.out) hls CK.out.2) B7.out rfl rfl rfl rfl (by omega) B7.out.size ?_
                  intro A9 k9 w9 O9 B9)
                go_roundw
                case rel =>
                  exact ⟨s + 1, k9, A9, by omega, by go_num, by rw [Nat.mul_succ], by rw [Nat.mul_succ, mixB_succ, if_neg HBIT.out]; exact O9.out, B9.out⟩
                case measure => simp [intOf]; omega
            · obtain rfl : s = 8 := by omega
              have O8 := hide (show OwnBy wr wf.heap.size Ar 128 kr (mixB k EV EU 8) from O7.out)
              have B8 := hide (BW.out.trans (B7.out.mono BW.out.size))
              have CR := hide (show 128 ≤ kr ∧ kr ≤ 9223372036854775807 by
                obtain ⟨_, _, e1, h1, h2⟩ := own_form O8.out
                injection e1 with e1 e2 e3
                simp only [maxLen] at h2
                omega)
              have DC := hide (dec_any Ar 128 kr _ _ wr (RwAt.lo_ (RwAt.of_own O8.out) (Nat.zero_le _)) (Nat.le_refl _) CR.out.1 CR.out.2 (SP.out.bel B8.out))
              clear O7
              go_wp2_with fail
              refine DC.out.mono ?_
              rintro r w9 ⟨hans, hb⟩
              have DA := hide hans
              have B9 := hide (B8.out.trans (hb.mono B8.out.size))
              clear hans hb
              by_cases hk0 : k = 0
              · have hi : ((k : Int) == 0) = true := by rw [beq_iff_eq]; omega
                obtain ⟨D1, d5, D2, d6, cs, rfl, -, -⟩ := DA.out.of_enc (v := u) (s := 2) ⟨hcku, by decide, by rw [← HEU.out, hk0]; exact mix_none HLN.out.2 bit_none⟩
                clear hk0
                unfold partC
                go_wp2_with fail
                go_ret
                exact ⟨rfl, B9.out.alloc B9.out.size _⟩
              · by_cases hk1 : k = 255
                · have hi : ((k : Int) == 0) = false := by rw [beq_eq_false_iff_ne]; omega
                  have hi1 : ((k : Int) == 255) = true := by rw [beq_iff_eq]; omega
                  obtain ⟨D1, d5, D2, d6, cs, rfl, -, -⟩ := DA.out.of_enc (v := v) (s := 1) ⟨hckv, by decide, by rw [← HEV.out, hk1]; exact mix_all HLN.out.1 bit_all⟩
                  clear hk0 hk1
                  unfold partC
                  go_wp2_with fail
                  go_ret
                  exact ⟨rfl, B9.out.alloc B9.out.size _⟩
                · have hi : ((k : Int) == 0) = false := by rw [beq_eq_false_iff_ne]; omega
                  have hi1 : ((k : Int) == 255) = false := by rw [beq_eq_false_iff_ne]; omega
                  have hr := DA.out.of_no (by rw [HEV.out, HEU.out]; exact mix_no hckv hcku HNE.out hk hk0 hk1 1 2)
                  subst hr
                  clear hk0 hk1
                  unfold zeroPart partC
                  go_wp2_with fail
                  go_ret
                  exact ⟨rfl, B9.out.alloc B9.out.size _⟩
      · have HNE := hide (show ¬ (v.e = u.e ∧ v.c = u.c) from fun h => he h.1)
        go_upto_region 3 with fail
        clear he
        clear y0 y1 z0 z1
        have y0 := X3.out.cell 0
        have y1 := X3.out.cell 1
        have y2 := X3.out.cell 2
        have y3 := X3.out.cell 3
        have y4 := X3.out.cell 4
        have y5 := X3.out.cell 5
        have y6 := X3.out.cell 6
        simp only [List.getElem?_toArray, List.getElem?_cons_succ, List.getElem?_cons_zero] at y0 y1 y2 y3 y4 y5 y6
        go_wp2_with fail
        clear y0 y1 y2 y3 y4 y5 y6
        refine (own_any v.e v.c v.i v.p v.x A1 A2 n1 c1 n2 c2 _ _ _ _ v.fs v.is w4 (HF.out.below BW.out) (RwAt.below HI.out BW.out) (by omega) (by omega) (fun f hf => Nat.le_trans (HLS.out f hf) (by decide))).mono ?_
        rintro r w5 ⟨B1, d1, B2, d2, rfl, hf2, hi2, hb⟩
        have F4 := hide hf2
        have I4 := hide hi2
        replace X3 := hide (X3.out.below hb)
        replace X4 := hide (X4.out.below hb)
        replace BW := hide (BW.out.trans (hb.mono BW.out.size))

        clear hf2 hi2 hb
        unfold partC
        go_wp2_with fail
        refine (enc_any v 1 (by decide) B1 B2 n1 d1 n2 d2 _ _ _ _ w5 (SP.out.bel BW.out) F4.out I4.out (by omega) (by omega) (by omega) H64.out).mono ?_
        rintro r w6 ⟨ha, hb⟩
        have EA := hide (EncAns.up ha (Nat.zero_le _))
        replace X3 := hide (X3.out.below hb)
        replace X4 := hide (X4.out.below hb)
        replace BW := hide (BW.out.trans (hb.mono BW.out.size))

        clear ha hb F4 I4
        obtain ⟨EV, hEV⟩ : ∃ x, x = v.enc 1 := ⟨_, rfl⟩
        have HEV := hide hEV
        clear hEV
        rcases EA.out with ⟨hckv, Av, kv, rfl, hov⟩ | ⟨hckv, rfl⟩
        rotate_left
        · have hckn : (v.ck != 0) = true := bne_iff_ne.2 hckv
          clear EA hckv
          have y0 := X4.out.cell 0
          have y1 := X4.out.cell 1
          have y2 := X4.out.cell 2
          have y3 := X4.out.cell 3
          have y4 := X4.out.cell 4
          have y5 := X4.out.cell 5
          have y6 := X4.out.cell 6
          simp only [List.getElem?_toArray, List.getElem?_cons_succ, List.getElem?_cons_zero] at y0 y1 y2 y3 y4 y5 y6
          go_wp2_with fail
          clear y0 y1 y2 y3 y4 y5 y6
          refine (own_any u.e u.c u.i u.p u.x G1 G2 m1 e1 m2 e2 _ _ _ _ u.fs u.is w6 (HG.out.below BW.out) (RwAt.below HJ.out BW.out) (by omega) (by omega) (fun f hf => Nat.le_trans (HLS'.out f hf) (by decide))).mono ?_
          rintro r w7 ⟨B1, d1, B2, d2, rfl, hf2, hi2, hb⟩
          have F4 := hide hf2
          have I4 := hide hi2
          replace X3 := hide (X3.out.below hb)
          replace X4 := hide (X4.out.below hb)
          replace BW := hide (BW.out.trans (hb.mono BW.out.size))

          clear hf2 hi2 hb
          unfold partC
          go_wp2_with fail
          refine (enc_any u 2 (by decide) B1 B2 m1 d1 m2 d2 _ _ _ _ w7 (SP.out.bel BW.out) F4.out I4.out (by omega) (by omega) (by omega) H64'.out).mono ?_
          rintro r w8 ⟨ha, hb⟩
          have EB := hide (EncAns.up ha (Nat.zero_le _))
          replace X3 := hide (X3.out.below hb)
          replace X4 := hide (X4.out.below hb)
          replace BW := hide (BW.out.trans (hb.mono BW.out.size))

          clear ha hb F4 I4
          obtain ⟨xb, yb, rfl⟩ : ∃ x y, r = .returned (.tuple #[x, y]) := by
            rcases EB.out with ⟨-, A, q, rfl, -⟩ | ⟨-, rfl⟩
            · exact ⟨_, _, rfl⟩
            · exact ⟨_, _, rfl⟩
          go_wp2_with fail
          go_ret
          exact ⟨rfl, BW.out⟩
        rw [← HEV.out] at hov
        have OV := hide hov
        clear EA hov
        have y0 := X4.out.cell 0
        have y1 := X4.out.cell 1
        have y2 := X4.out.cell 2
        have y3 := X4.out.cell 3
        have y4 := X4.out.cell 4
        have y5 := X4.out.cell 5
        have y6 := X4.out.cell 6
        simp only [List.getElem?_toArray, List.getElem?_cons_succ, List.getElem?_cons_zero] at y0 y1 y2 y3 y4 y5 y6
        go_wp2_with fail
        clear y0 y1 y2 y3 y4 y5 y6
        refine (own_any u.e u.c u.i u.p u.x G1 G2 m1 e1 m2 e2 _ _ _ _ u.fs u.is w6 (HG.out.below BW.out) (RwAt.below HJ.out BW.out) (by omega) (by omega) (fun f hf => Nat.le_trans (HLS'.out f hf) (by decide))).mono ?_
        rintro r w7 ⟨B1, d1, B2, d2, rfl, hf2, hi2, hb⟩
        have F4 := hide hf2
        have I4 := hide hi2
        replace X3 := hide (X3.out.below hb)
        replace X4 := hide (X4.out.below hb)
        replace BW := hide (BW.out.trans (hb.mono BW.out.size))
        replace OV := hide (own_bel OV.out hb)

        clear hf2 hi2 hb
        unfold partC
        go_wp2_with fail
        refine (enc_any u 2 (by decide) B1 B2 m1 d1 m2 d2 _ _ _ _ w7 (SP.out.bel BW.out) F4.out I4.out (by omega) (by omega) (by omega) H64'.out).mono ?_
        rintro r w8 ⟨ha, hb⟩
        have EB := hide (EncAns.up ha (Nat.zero_le _))
        replace X3 := hide (X3.out.below hb)
        replace X4 := hide (X4.out.below hb)
        replace BW := hide (BW.out.trans (hb.mono BW.out.size))
        replace OV := hide (own_bel OV.out hb)

        clear ha hb F4 I4
        obtain ⟨EU, hEU⟩ : ∃ x, x = u.enc 2 := ⟨_, rfl⟩
        have HEU := hide hEU
        clear hEU
        rcases EB.out with ⟨hcku, Au, ku, rfl, hou⟩ | ⟨hcku, rfl⟩
        rotate_left
        · have hckn : (u.ck != 0) = true := bne_iff_ne.2 hcku
          clear EB hcku
          go_wp2_with fail
          go_ret
          exact ⟨rfl, BW.out⟩
        rw [← HEU.out] at hou
        have OU := hide hou
        clear EB hou
        have CK := hide (show 128 ≤ kv ∧ 128 ≤ ku by
          obtain ⟨_, _, e1, h1, h2⟩ := own_form OV.out
          injection e1 with e1 e2 e3
          obtain ⟨_, _, e4, h3, h4⟩ := own_form OU.out
          injection e4 with e4 e5 e6
          omega)
        have HLN := hide (show EV.length = 128 ∧ EU.length = 128 from ⟨by rw [HEV.out]; exact PV.enc_len hckv 1, by rw [HEU.out]; exact PV.enc_len hcku 2⟩)
        go_upto_region 9 with fail
        obtain ⟨wf, hwf⟩ : ∃ W, W = w8 := ⟨_, rfl⟩
        rw [← hwf]
        rw [← hwf] at X3 X4 BW OV OU
        clear hwf
        go_loopw [11, 12] (fun x y wr => ∃ (s kr : Nat) (Ar : Option Addr), s ≤ 8 ∧ y = .int .i64 (s : Int) ∧ x = .slice Ar (16 * s) kr ∧ OwnBy wr wf.heap.size Ar (16 * s) kr (mixB k EV EU s) ∧ Below wf.heap.size wf wr) (fun _ y _ => 8 - (intOf y).toNat)
        case atStart => exact ⟨0, 0, none, by omega, rfl, rfl, World.ownsRow_nil _ _ _ _, Below.refl _ _⟩
        case round =>
          obtain ⟨s, kr, Ar, hs, rfl, rfl, ho, hb⟩ := hrel
          have O7 := hide ho
          have B7 := hide hb
          clear ho hb
          by_cases hls : s < 8
          · have hss : (s : Int) < 8 := by omega
            have hs64 : IntKind.i64.wrap (s : Int) = (s : Int) := by rw [IntKind.wrap_i64]; omega
            have h0 : IntKind.i64.wrap (16 * (s : Int)) = 16 * (s : Int) := by rw [IntKind.wrap_i64]; omega
            have h16 : IntKind.i64.wrap (16 * (s : Int) + 16) = 16 * (s : Int) + 16 := by rw [IntKind.wrap_i64]; omega
            have cu1 := run_secM (A := Av) (c := kv) (w := wr) hls CK.out.1
            have cu2 := run_secM (A := Au) (c := ku) (w := wr) hls CK.out.2
            have e8 : ((k : Int) / 2 ^ s) = ((k / 2 ^ s : Nat) : Int) := by simp
            have e9 := and8M (k / 2 ^ s) (Nat.lt_of_le_of_lt (Nat.div_le_self _ _) hk)
            by_cases hbit : bitK k s
            · have hb1 : (bits BinOp.and IntKind.u8 ((k : Int) / 2 ^ s) 1 == 1) = true := by
                rw [e8, e9, beq_iff_eq]; unfold bitK at hbit; omega
              have HBIT := hide hbit
              clear hbit e8 e9
              go_wp2_with (
                at_builtin
                refine wpList_appB (.tmp 70) (.tmp 77) O7.out (by_secM ((own_byS OV.out).below B7.out) hls CK.out.1) B7.out rfl rfl rfl rfl (by omega) B7.out.size ?_
                intro A9 k9 w9 O9 B9)
              go_roundw
              case rel =>
                exact ⟨s + 1, k9, A9, by omega, by go_num, by rw [Nat.mul_succ], by rw [Nat.mul_succ, mixB_succ, if_pos HBIT.out]; exact O9.out, B9.out⟩
              case measure => simp [intOf]; omega
            · have hb1 : (bits BinOp.and IntKind.u8 ((k : Int) / 2 ^ s) 1 == 1) = false := by
                rw [e8, e9, beq_eq_false_iff_ne]; unfold bitK at hbit; omega
              have HBIT := hide hbit
              clear hbit e8 e9
              go_wp2_with (
                at_builtin
                refine wpList_appB (.tmp 79) (.tmp 86) O7.out (by_secM ((own_byS OU.out).below B7.out) hls CK.out.2) B7.out rfl rfl rfl rfl (by omega) B7.out.size ?_
                intro A9 k9 w9 O9 B9)
              go_roundw
              case rel =>
                exact ⟨s + 1, k9, A9, by omega, by go_num, by rw [Nat.mul_succ], by rw [Nat.mul_succ, mixB_succ, if_neg HBIT.out]; exact O9.out, B9.out⟩
              case measure => simp [intOf]; omega
          · obtain rfl : s = 8 := by omega
            have O8 := hide (show OwnBy wr wf.heap.size Ar 128 kr (mixB k EV EU 8) from O7.out)
            have B8 := hide (BW.out.trans (B7.out.mono BW.out.size))
            have CR := hide (show 128 ≤ kr ∧ kr ≤ 9223372036854775807 by
              obtain ⟨_, _, e1, h1, h2⟩ := own_form O8.out
              injection e1 with e1 e2 e3
              simp only [maxLen] at h2
              omega)
            have DC := hide (dec_any Ar 128 kr _ _ wr (RwAt.lo_ (RwAt.of_own O8.out) (Nat.zero_le _)) (Nat.le_refl _) CR.out.1 CR.out.2 (SP.out.bel B8.out))
            clear O7
            go_wp2_with fail
            refine DC.out.mono ?_
            rintro r w9 ⟨hans, hb⟩
            have DA := hide hans
            have B9 := hide (B8.out.trans (hb.mono B8.out.size))
            clear hans hb
            by_cases hk0 : k = 0
            · have hi : ((k : Int) == 0) = true := by rw [beq_iff_eq]; omega
              obtain ⟨D1, d5, D2, d6, cs, rfl, -, -⟩ := DA.out.of_enc (v := u) (s := 2) ⟨hcku, by decide, by rw [← HEU.out, hk0]; exact mix_none HLN.out.2 bit_none⟩
              clear hk0
              unfold partC
              go_wp2_with fail
              go_ret
              exact ⟨rfl, B9.out.alloc B9.out.size _⟩
            · by_cases hk1 : k = 255
              · have hi : ((k : Int) == 0) = false := by rw [beq_eq_false_iff_ne]; omega
                have hi1 : ((k : Int) == 255) = true := by rw [beq_iff_eq]; omega
                obtain ⟨D1, d5, D2, d6, cs, rfl, -, -⟩ := DA.out.of_enc (v := v) (s := 1) ⟨hckv, by decide, by rw [← HEV.out, hk1]; exact mix_all HLN.out.1 bit_all⟩
                clear hk0 hk1
                unfold partC
                go_wp2_with fail
                go_ret
                exact ⟨rfl, B9.out.alloc B9.out.size _⟩
              · have hi : ((k : Int) == 0) = false := by rw [beq_eq_false_iff_ne]; omega
                have hi1 : ((k : Int) == 255) = false := by rw [beq_eq_false_iff_ne]; omega
                have hr := DA.out.of_no (by rw [HEV.out, HEU.out]; exact mix_no hckv hcku HNE.out hk hk0 hk1 1 2)
                subst hr
                clear hk0 hk1
                unfold zeroPart partC
                go_wp2_with fail
                go_ret
                exact ⟨rfl, B9.out.alloc B9.out.size _⟩
end Go.Proofs.YtbamdibpkkponaaDoor
