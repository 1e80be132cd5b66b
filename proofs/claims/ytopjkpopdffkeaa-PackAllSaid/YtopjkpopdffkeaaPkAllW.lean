/- The walk over marllaw13.PackAll. -/
import Derived.Test.YtopjkpopdffkeaaPkAllL
import Derived.Test.YtopjkpopdffkeaaLast
namespace Go.Proofs.Ytopjkpopdffkeaa
open Go.RowKit
attribute [local go_sem ↓] Go.wp_at_zero Go.wp_at_succ

/-- What the first loops gather. -/
structure AL (bs : Nat) (w w' : World) (A : Option Addr) (n c : Nat) (l : List Tri) (A' : Option Addr) (n' c' : Nat) (l' : List Int) : Prop where
  ln : n = l.length
  ln' : n' = l'.length
  bl : w'.ownsRow bs 48 3 (.slice A n c) n (b3C l)
  nd : w'.ownsRow bs 3 1 (.slice A' n' c') n' (intC l')
  kt : Kt TA bs w w'
  sz : bs ≤ w'.heap.size
theorem AL.bel {bs : Nat} {w w' w2 : World} {A A' : Option Addr} {n c n' c' : Nat} {l : List Tri} {l' : List Int} (h : AL bs w w' A n c l A' n' c' l') (hb : Below w'.heap.size w' w2) : AL bs w w2 A n c l A' n' c' l' :=
  ⟨h.ln, h.ln', own_bel h.bl hb, own_bel h.nd hb, h.kt.trans (Kt.of_below hb), Nat.le_trans h.sz hb.size⟩
theorem AL.from {bs : Nat} {w w1 w' : World} {A A' : Option Addr} {n c n' c' : Nat} {l : List Tri} {l' : List Int} (h : AL bs w1 w' A n c l A' n' c' l') (hk : Kt TA bs w w1) : AL bs w w' A n c l A' n' c' l' :=
  ⟨h.ln, h.ln', h.bl, h.nd, hk.trans h.kt, h.sz⟩
theorem AL.self {bs : Nat} {w w' : World} {A A' : Option Addr} {n c n' c' : Nat} {l : List Tri} {l' : List Int} (h : AL bs w w' A n c l A' n' c' l') : AL bs w' w' A n c l A' n' c' l' :=
  ⟨h.ln, h.ln', h.bl, h.nd, Kt.refl _ _ _, h.sz⟩
/-- The triples' row has grown. -/
theorem AL.tri {bs : Nat} {w w' w2 : World} {A A' B : Option Addr} {n c n' c' m d : Nat} {l k : List Tri} {l' : List Int} (h : AL bs w w' A n c l A' n' c' l') (hm : m = n + k.length) (hg : w'.grownBy w2 (Value.slice A n c).ownBlock) (ho : w2.ownsRow bs 48 3 (.slice B m d) m (b3C l ++ b3C k)) : AL bs w w2 B m d (l ++ k) A' n' c' l' :=
  ⟨by rw [hm, List.length_append, h.ln], h.ln', by rw [b3C_app]; exact ho, own_other h.nd hg (fun g e => by obtain ⟨-, cs, hB⟩ := own_blk h.bl e; exact ⟨_, cs, hB, by decide⟩),
    h.kt.trans (Kt.gr hg (fun g e => by obtain ⟨hb, cs, hB⟩ := own_blk h.bl e; exact ⟨hb, _, cs, hB, by simp⟩)), Nat.le_trans h.sz hg.size⟩
theorem AL.int {bs : Nat} {w w' w2 : World} {A A' B : Option Addr} {n c n' c' m d : Nat} {l : List Tri} {l' k : List Int} (h : AL bs w w' A n c l A' n' c' l') (hm : m = n' + k.length) (hg : w'.grownBy w2 (Value.slice A' n' c').ownBlock) (ho : w2.ownsRow bs 3 1 (.slice B m d) m (intC l' ++ intC k)) : AL bs w w2 A n c l B m d (l' ++ k) :=
  ⟨h.ln, by rw [hm, List.length_append, h.ln'], own_other h.bl hg (fun g e => by obtain ⟨-, cs, hB⟩ := own_blk h.nd e; exact ⟨_, cs, hB, by decide⟩), by rw [← intC_apps]; exact ho,
    h.kt.trans (Kt.gr hg (fun g e => by obtain ⟨hb, cs, hB⟩ := own_blk h.nd e; exact ⟨hb, _, cs, hB, by simp⟩)), Nat.le_trans h.sz hg.size⟩
set_option maxRecDepth 100000 in
set_option maxHeartbeats 8000000 in
theorem all_all (A A' : Option Addr) (m c m' c' : Nat) (files : List FI) (inos : List Int) (left size : Int) (w : World) (hf : FisAt 0 w.heap.size w A m files) (hi : IntsAt 0 w.heap.size w A' m' inos) (hm63 : m ≤ 9223372036854775807) (hm63' : m' ≤ 9223372036854775807)
    (hls : ∀ f ∈ files, (-9223372036854775808 ≤ f.ino ∧ f.ino ≤ 9223372036854775807) ∧ (-9223372036854775808 ≤ f.ver ∧ f.ver ≤ 9223372036854775807) ∧ (∀ x ∈ f.ls, -9223372036854775808 ≤ x ∧ x ≤ 9223372036854775807) ∧ f.ls.length ≤ 9223372036854775807) :
    Calls Try.prog 4 #[.slice A m c, .slice A' m' c', .agg #[.int .i64 left, .int .i64 size]] w fun e w' => e = .returned (.bool true) ∧ Below w.heap.size w w' := by
  have HF := hide hf
  have HI := hide hi
  have HLS := hide hls
  have HL1 := hide (hf.len)
  have HL2 := hide (IntsAt.len hi)
  clear hf hi hls
  go_enter Try.func4, Try.ntmps4
  go_wp2_with fail
  obtain ⟨wx, hwx⟩ : ∃ W, W = w.alloc (.cells #[.int .i64 left, .int .i64 size] 24) := ⟨_, rfl⟩
  have BX : Hid (Below w.heap.size w wx) := hide (by rw [hwx]; exact (Below.refl _ _).alloc (Nat.le_refl _) _)
  have KX : Hid (Blk wx w.heap.size 24 #[.int .i64 left, .int .i64 size]) := hide (by rw [hwx]; exact Blk.new _ _ _)
  rw [← hwx]
  clear hwx
  refine (awake13 wx).mono ?_
  rintro e w1 ⟨rfl, hb⟩
  have B1 := hide (BX.out.trans (hb.mono BX.out.size))
  have K1 := hide (KX.out.below hb)
  clear hb BX KX
  go_wp2_with fail
  refine (few_any A A' m c m' c' _ _ _ _ files inos w1 (HF.out.below B1.out) (RwAt.below HI.out B1.out) hm63 hm63' (fun f hf => (HLS.out f hf).2.2.2)).mono ?_
  rintro e w2 ⟨rfl, hb⟩
  have B2 := hide (B1.out.trans (hb.mono B1.out.size))
  have K2 := hide (K1.out.below hb)
  clear hb B1 K1
  by_cases hfew : fewP files inos
  · rw [decide_eq_true hfew]
    have HFEW := hide hfew
    clear hfew
    have s0 : w2.drew.cell? ⟨w.heap.size, 0, none⟩ = some (.int .i64 left) ∧ w2.drew.cell? ⟨w.heap.size, 1, none⟩ = some (.int .i64 size) := ⟨K2.out.cell 0, K2.out.cell 1⟩
    go_wp2_with fail
    refine wp_region_noPanic ?_
    refine wp_region_held_drew (S := (fun w' => w'.cell? ⟨w.heap.size, 0, none⟩ = some (.int .i64 left) ∧ w'.cell? ⟨w.heap.size, 1, none⟩ = some (.int .i64 size))) (by kernel_rfl) ?_ (fun hHeld => ?_)
    · ((try dsimp only) <;> (first | trivial | assumption | go_keep))
    refine wpAnyH_take (i := 0) (v := ?_) (by simp only [List.getElem?_toArray, List.getElem?_cons_succ, List.getElem?_cons_zero]; rfl) (by kernel_rfl) (by kernel_rfl) (by kernel_rfl) (fun _ _ _ h => h) (Or.inl ⟨by rfl, ?_⟩) (by assumption) ?_
    rotate_left 1
    · (intro w hSw; (try dsimp only at hSw); go_simp; try with_reducible rfl)
    try simp only [Act.put, List.setIfInBounds_toArray, List.set_cons_zero, List.set_cons_succ]
    refine wpAnyH_take (i := 1) (v := ?_) (by simp only [List.getElem?_toArray, List.getElem?_cons_succ, List.getElem?_cons_zero]; rfl) (by kernel_rfl) (by kernel_rfl) (by kernel_rfl) (fun _ _ _ h => h) (Or.inl ⟨by rfl, ?_⟩) (by assumption) ?_
    rotate_left 1
    · (intro w hSw; (try dsimp only at hSw); go_simp; try with_reducible rfl)
    try simp only [Act.put, List.setIfInBounds_toArray, List.set_cons_zero, List.set_cons_succ]
    refine wpAnyH_take (i := 2) (v := ?_) (by simp only [List.getElem?_toArray, List.getElem?_cons_succ, List.getElem?_cons_zero]; rfl) (by kernel_rfl) (by kernel_rfl) (by kernel_rfl) (fun _ _ _ h => h) (Or.inl ⟨by rfl, ?_⟩) (by assumption) ?_
    rotate_left 1
    · (intro w hSw; (try dsimp only at hSw); go_simp; try with_reducible rfl)
    try simp only [Act.put, List.setIfInBounds_toArray, List.set_cons_zero, List.set_cons_succ]
    refine wpAnyH_take (i := 3) (v := ?_) (by simp only [List.getElem?_toArray, List.getElem?_cons_succ, List.getElem?_cons_zero]; rfl) (by kernel_rfl) (by kernel_rfl) (by kernel_rfl) (fun _ _ _ h => h) (Or.inl ⟨by rfl, ?_⟩) (by assumption) ?_
    rotate_left 1
    · (intro w hSw; (try dsimp only at hSw); go_simp; try with_reducible rfl)
    try simp only [Act.put, List.setIfInBounds_toArray, List.set_cons_zero, List.set_cons_succ]
    refine wpAnyH_take (i := 4) (v := ?_) (by simp only [List.getElem?_toArray, List.getElem?_cons_succ, List.getElem?_cons_zero]; rfl) (by kernel_rfl) (by kernel_rfl) (by kernel_rfl) (fun _ _ _ h => h) (Or.inl ⟨by rfl, ?_⟩) (by assumption) ?_
    rotate_left 1
    · (intro w hSw; (try dsimp only at hSw); go_simp; try with_reducible rfl)
    try simp only [Act.put, List.setIfInBounds_toArray, List.set_cons_zero, List.set_cons_succ]
    refine wpAnyH_take (i := 5) (v := ?_) (by simp only [List.getElem?_toArray, List.getElem?_cons_succ, List.getElem?_cons_zero]; rfl) (by kernel_rfl) (by kernel_rfl) (by kernel_rfl) (fun _ _ _ h => h) (Or.inl ⟨by rfl, ?_⟩) (by assumption) ?_
    rotate_left 1
    · (intro w hSw; (try dsimp only at hSw); go_simp; try with_reducible rfl)
    try simp only [Act.put, List.setIfInBounds_toArray, List.set_cons_zero, List.set_cons_succ]
    refine wpAnyH_done (by kernel_rfl) ?_ _
    refine NoPanic.normal ?_
    have B3 : Hid (Below w.heap.size w w2.drew) := hide B2.out.drew
    generalize w2.drew = w3 at *
    clear s0 hHeld K2 B2
    clear w2
    by_cases hbad : badP left size
    · go_wp2_with fail
      have C1 := plan_bad A A' m c m' c' left size w3 hbad
      refine C1.mono ?_
      rintro e w4 ⟨rfl, hb4⟩
      have B4 := hide (B3.out.trans (hb4.mono B3.out.size))
      clear C1 hb4
      go_wp2_with fail
      go_ret
      exact ⟨rfl, B4.out⟩
    · have hgood : 8 ≤ size ∧ size ≤ 64 ∧ 0 ≤ left ∧ left ≤ size := by unfold badP at hbad; omega
      obtain ⟨g8, g64, g0, gl⟩ := hgood
      go_wp2_with fail
      have C1 := plan_good A A' m c m' c' _ _ _ _ files inos left size w3 (HF.out.below B3.out) (RwAt.below HI.out B3.out) B3.out.size B3.out.size (by have := HFEW.out.1; have := HL1.out; omega) (by have := HFEW.out.2; have := HL2.out; omega) (by have := HFEW.out.2; omega) hbad
      refine C1.mono ?_
      rintro e w4 ⟨hb4, hq4⟩
      have B4 := hide (B3.out.trans (hb4.mono B3.out.size))
      clear C1 hb4 hbad
      rcases hR : goS (actsA files inos) (startS left size) with _ | sa
      · rw [hR] at hq4
        obtain rfl : e = _ := hq4
        go_wp2_with fail
        go_ret
        exact ⟨rfl, B4.out⟩
      · rw [hR] at hq4
        obtain ⟨PA, da, rfl, hOA⟩ := hq4
        have PD := hide (plan_bd g8 g0 gl hR)
        have PL := hide (plan_all g8 g0 gl hR)
        obtain ⟨ps, hps⟩ : ∃ ps, ps = sa.out := ⟨_, rfl⟩
        rw [← hps] at hOA PD PL
        rw [← hps]
        clear hps hR
        clear sa
        obtain ⟨L, hL⟩ : ∃ L, L = ps.length := ⟨_, rfl⟩
        rw [← hL] at hOA PD
        rw [← hL]
        have HL := hide hL
        have OA := hide hOA
        have hL600 : L ≤ 600 := by have := PD.out.1; have := HFEW.out.2; omega
        clear hL hOA
        obtain ⟨bs, hbs⟩ : ∃ b, b = w4.heap.size := ⟨_, rfl⟩
        have HBS := hide hbs
        have W4S : Hid (w.heap.size ≤ bs) := hide (by rw [hbs]; exact B4.out.size)
        go_wp2_with fail
        go_loopw [7, 11, 12, 54] (fun lf bl nd y wr => ∃ (q nb nn : Nat) (lv : Int) (A1 A2 : Option Addr) (c1 c2 : Nat), q ≤ L ∧ y = .int .i64 (q : Int) ∧ lf = .int .i64 lv ∧ lv = leftE size left (ps.take q) ∧ bl = .slice A1 nb c1 ∧ nd = .slice A2 nn c2 ∧ AL bs w4 wr A1 nb c1 (blkL (ps.take q)) A2 nn c2 (nodL (ps.take q))) (fun _ _ _ y _ => L - (intOf y).toNat)
        case atStart => exact ⟨0, 0, 0, left, none, none, 0, 0, Nat.zero_le _, rfl, rfl, rfl, rfl, rfl, ⟨rfl, rfl, World.ownsRow_nil _ _ _ _, World.ownsRow_nil _ _ _ _, Kt.refl _ _ _, by rw [hbs]; exact Nat.le_refl _⟩⟩
        case round =>
          obtain ⟨q, nb, nn, lv, A1, A2, c1, c2, hqL, rfl, rfl, hlv, rfl, rfl, hAL⟩ := hrel
          have HA := hide hAL
          have HLV := hide hlv
          have LB := hide (PL.out.2.2.left g0 gl q (by rw [← HL.out]; exact hqL))
          have BW4 := hide (hAL.kt.below (Nat.le_of_eq HBS.out))
          clear hAL hlv
          by_cases hlt : q < L
          · obtain ⟨g, p, P1, d1, P2, d2, hA, hg0, ⟨csg, hgb⟩, hp, hf1, hi1, q0, q1, q2⟩ := OA.out.at hlt
            subst hA
            have HP := hide hp
            have OK := hide (PL.out.2.2 q p hp)
            obtain ⟨k1, k2, k3, k4⟩ := PD.out.2 p (List.mem_of_getElem? hp)
            have PK := hide (And.intro k1 (And.intro k2 (And.intro k3 k4)))
            have F1 := hide hf1
            have I1 := hide hi1
            have hglt := hgb.lt
            have BWW : Below w4.heap.size w4 wr := by rw [← hbs]; exact BW4.out
            replace q0 := (BWW.cell (p := ⟨g, q * 3, none⟩) hglt).trans q0
            replace q1 := (BWW.cell (p := ⟨g, q * 3 + 1, none⟩) hglt).trans q1
            replace q2 := (BWW.cell (p := ⟨g, q * 3 + 2, none⟩) hglt).trans q2
            obtain ⟨n1, hn1⟩ : ∃ n, n = p.fs.length := ⟨_, rfl⟩
            obtain ⟨n2, hn2⟩ : ∃ n, n = p.is.length := ⟨_, rfl⟩
            obtain ⟨nw, hnw⟩ : ∃ n, n = p.nw := ⟨_, rfl⟩
            rw [← hn1] at F1 q1
            rw [← hn2] at I1 q2
            rw [← hnw] at q0
            clear BWW hglt
            have HN1 := hide hn1
            have HN2 := hide hn2
            have HNW := hide hnw
            have hn1b : n1 ≤ 300 := by rw [hn1]; have := HFEW.out.2; omega
            have hn2b : n2 ≤ 300 := by rw [hn2]; have := HFEW.out.2; omega
            clear hp hf1 hi1 hgb hg0 k1 k2 k3 k4 hn1 hn2 hnw
            have hqs : (q : Int) < (L : Int) := by omega
            have hw64 : IntKind.i64.wrap (q : Int) = (q : Int) := by rw [IntKind.wrap_i64]; omega
            obtain ⟨wa, hwa⟩ : ∃ W, W = wr.alloc (.cells #[.bool nw, .slice P1 n1 d1, .slice P2 n2 d2] 40) := ⟨_, rfl⟩
            have KA : Hid (Blk wa wr.heap.size 40 #[.bool nw, .slice P1 n1 d1, .slice P2 n2 d2]) := hide (by rw [hwa]; exact Blk.new _ _ _)
            have HAa : Hid (AL bs w4 wa A1 nb c1 (blkL (ps.take q)) A2 nn c2 (nodL (ps.take q))) := hide (by rw [hwa]; exact HA.out.bel ((Below.refl _ _).alloc (Nat.le_refl _) _))
            obtain ⟨bp, hbp⟩ : ∃ b, b = wr.heap.size := ⟨_, rfl⟩
            have BP : Hid (bs ≤ bp) := hide (by rw [hbp]; exact HA.out.sz)
            rw [← hbp] at KA
            have hLV2 : ∃ l2 : Int, l2 = leftA size lv p ∧ (l2 = if nw = true then size else lv) := ⟨_, rfl, by unfold leftA; rw [HNW.out]⟩
            obtain ⟨l2, hl2, hl3⟩ := hLV2
            have HL2' := hide hl2
            have HL3 := hide hl3
            have hl2b : 0 ≤ l2 ∧ l2 ≤ 64 := by have := LB.out; rw [← HLV.out] at this; rw [hl3]; split <;> omega
            go_upto_region 12 with fail
            rw [← hwa, ← hbp]
            have a0 := KA.out.cell 0
            have a1 := KA.out.cell 1
            have a2 := KA.out.cell 2
            simp only [List.getElem?_toArray, List.getElem?_cons_succ, List.getElem?_cons_zero] at a0 a1 a2
            clear hwa hl2 hl3 hbp
            by_cases hnwt : nw = true
            · subst hnwt
              have hl2e : l2 = size := by rw [HL3.out, if_pos rfl]
              subst hl2e
              go_wp2_with fail
              have KTa := hide (HAa.out.kt)
              have SZa := hide (HAa.out.sz)
              have NBD := hide (show (blkL (ps.take q)).length + lsN p.fs ≤ 300 by
                have e := congrArg List.length (blkL_take HP.out)
                rw [List.length_append, blkF_len] at e
                have e2 := (blkL_le ps (q + 1)).1
                have e3 := congrArg List.length PL.out.1
                rw [blkF_len] at e3
                have := HFEW.out.2
                omega)
              have NDD := hide (show (nodL (ps.take q)).length + p.is.length ≤ 300 by
                have e := congrArg List.length (nodL_take HP.out)
                rw [List.length_append] at e
                have e2 := (blkL_le ps (q + 1)).2
                have e3 := congrArg List.length PL.out.2.1
                have := HFEW.out.2
                omega)
              have hnnb : nn ≤ 300 := by have := HAa.out.ln'; have := NDD.out; omega
              go_loopw [11, 15, 68] (fun bl v y wr => ∃ (i nb' : Nat) (A3 : Option Addr) (c3 : Nat), i ≤ n1 ∧ y = .int .i64 (i : Int) ∧ v = .int .i64 ((2 + n2 + lsN (p.fs.take i) : Nat) : Int) ∧ bl = .slice A3 nb' c3 ∧ AL bs wa wr A3 nb' c3 (blkL (ps.take q) ++ blkF (p.fs.take i)) A2 nn c2 (nodL (ps.take q))) (fun _ _ y _ => n1 - (intOf y).toNat)
              case atStart => exact ⟨0, nb, A1, c1, Nat.zero_le _, rfl, by simp [lsN, sumN], rfl, by have := HAa.out.self; simpa [blkF] using this⟩
              case round =>
                obtain ⟨i, nb', A3, c3, hin, rfl, rfl, rfl, hAL⟩ := hrel
                have HA3 := hide hAL
                have BW5 := hide ((KTa.out.trans hAL.kt).below (Nat.le_of_eq HBS.out))
                clear hAL
                by_cases hlt2 : i < n1
                · obtain ⟨b5, off5, f, A5, c5, hA5, hFr, hfi, hI5, r0, r1, r2⟩ := F1.out.at hlt2
                  subst hA5
                  have HFI := hide hfi
                  have FL := hide (PK.out.2.2.2 f (List.mem_of_getElem? hfi))
                  have hb5 := hFr.2.1
                  have BWW : Below w4.heap.size w4 wr := by rw [← hbs]; exact BW5.out
                  replace r0 := (BWW.cell (p := ⟨b5, off5 + i * 3, none⟩) hb5).trans r0
                  replace r1 := (BWW.cell (p := ⟨b5, off5 + i * 3 + 1, none⟩) hb5).trans r1
                  replace r2 := (BWW.cell (p := ⟨b5, off5 + i * 3 + 2, none⟩) hb5).trans r2
                  have HI5 := hide hI5
                  obtain ⟨m5, hm5⟩ : ∃ n, n = f.ls.length := ⟨_, rfl⟩
                  rw [← hm5] at r2 HI5 FL
                  have HM5 := hide hm5
                  have LT := hide (lsN_take hfi)
                  have LE := hide (lsN_le p.fs (i + 1))
                  have hnn0 : nn = 0 := by
                    have h1 := OK.out.nod (fun e => by rw [e] at hfi; simp at hfi)
                    rw [HAa.out.ln', h1]; rfl
                  have hz1 : ¬ (m5 : Int) < 1 := by have := FL.out.1; omega
                  have hz2 : ¬ (30 : Int) < (m5 : Int) := by have := FL.out.2; omega
                  have hz3 : ¬ (0 : Int) < (nn : Int) := by omega
                  have hm5b : m5 ≤ 30 := FL.out.2
                  obtain ⟨sx, hsx⟩ : ∃ x, x = 2 + n2 + lsN (p.fs.take i) := ⟨_, rfl⟩
                  have hsxb : sx ≤ 700 := by have := LE.out; have := LT.out; have := NBD.out; omega
                  have HSX := hide hsx
                  rw [← hsx]
                  clear BWW hb5 hFr hfi hI5 hm5 hsx hnn0
                  have his : (i : Int) < (n1 : Int) := by omega
                  have hi64 : IntKind.i64.wrap (i : Int) = (i : Int) := by rw [IntKind.wrap_i64]; omega
                  obtain ⟨wb, hwb⟩ : ∃ W, W = wr.alloc (.cells #[.int .i64 f.ino, .int .i64 f.ver, .slice A5 m5 c5] 45) := ⟨_, rfl⟩
                  have KF : Hid (Blk wb wr.heap.size 45 #[.int .i64 f.ino, .int .i64 f.ver, .slice A5 m5 c5]) := hide (by rw [hwb]; exact Blk.new _ _ _)
                  have HA4 : Hid (AL bs wa wb A3 nb' c3 (blkL (ps.take q) ++ blkF (p.fs.take i)) A2 nn c2 (nodL (ps.take q))) := hide (by rw [hwb]; exact HA3.out.bel ((Below.refl _ _).alloc (Nat.le_refl _) _))
                  obtain ⟨bf, hbf⟩ : ∃ b, b = wr.heap.size := ⟨_, rfl⟩
                  rw [← hbf] at KF
                  go_upto_region 18 with fail
                  rw [← hwb, ← hbf]
                  clear hwb r0 r1 r2 hbf
                  have x2 := KF.out.cell 2
                  simp only [List.getElem?_toArray, List.getElem?_cons_succ, List.getElem?_cons_zero] at x2
                  go_wp2_with fail
                  clear x2
                  go_loopw [11, 19, 95] (fun bl _ y wr => ∃ (k nb4 : Nat) (A4 : Option Addr) (c4 : Nat), k ≤ m5 ∧ y = .int .i64 (k : Int) ∧ bl = .slice A4 nb4 c4 ∧ AL bs wb wr A4 nb4 c4 ((blkL (ps.take q) ++ blkF (p.fs.take i)) ++ (f.ls.take k).map fun n => (f.ino, f.ver, n)) A2 nn c2 (nodL (ps.take q))) (fun _ _ y _ => m5 - (intOf y).toNat)
                  case atStart => exact ⟨0, nb', A3, c3, Nat.zero_le _, rfl, rfl, by have := HA4.out.self; simpa using this⟩
                  case round =>
                    obtain ⟨k, nb4, A4, c4, hkm, rfl, rfl, hAL⟩ := hrel
                    have HA5 := hide hAL
                    have BW6 := hide ((KTa.out.trans (HA4.out.kt.trans hAL.kt)).below (Nat.le_of_eq HBS.out))
                    have KF6 := hide (KF.out.kt hAL.kt (by decide))
                    clear hAL
                    by_cases hlt3 : k < m5
                    · obtain ⟨zn, hzn⟩ : ∃ x, f.ls[k]? = some x := ⟨_, List.getElem?_eq_getElem (by rw [← HM5.out]; exact hlt3)⟩
                      obtain ⟨b6, off6, hA6, hF6, hc6⟩ := RwAt.at HI5.out (by omega) (by decide)
                      have z6 := hc6 k (.int .i64 zn) (by rw [intC, List.getElem?_map, hzn]; rfl)
                      subst hA6
                      have BWW : Below w4.heap.size w4 wr := by rw [← hbs]; exact BW6.out
                      replace z6 := (BWW.cell (p := ⟨b6, off6 + k, none⟩) hF6.2.1).trans z6
                      have HZN := hide hzn
                      have x0 := KF6.out.cell 0
                      have x1 := KF6.out.cell 1
                      simp only [List.getElem?_toArray, List.getElem?_cons_succ, List.getElem?_cons_zero] at x0 x1
                      have hnb4 : nb4 ≤ 300 := by
                        have e := HA5.out.ln
                        rw [List.length_append, List.length_append, blkF_len, List.length_map, List.length_take] at e
                        have := NBD.out
                        have := LE.out
                        have := LT.out
                        have := HM5.out
                        omega
                      have lt3 := fun w xs h => one_tri w xs h
                      have hks : (k : Int) < (m5 : Int) := by omega
                      have hk64 : IntKind.i64.wrap (k : Int) = (k : Int) := by rw [IntKind.wrap_i64]; omega
                      clear hzn hF6 hc6 BWW
                      go_wp2_with (
                        at_builtin
                        refine wpList_appK rfl (.tmp 99) (.tmp 106) _ rfl etyT3 bs (.slice A4 nb4 c4) nb4 _ rfl (own_bel HA5.out.bl ((Below.refl wr.heap.size wr).alloc (Nat.le_refl _) (.cells #[.int .i64 f.ino, .int .i64 f.ver, .int .i64 zn] 48))) (wr.heap.size + 1) (some ⟨wr.heap.size, 0, none⟩) 1 1 (b3 (f.ino, f.ver, zn)) rfl (slc_new wr (b3 (f.ino, f.ver, zn)) _ rfl) (b3_one _) (by omega) (Nat.le_trans HA5.out.sz (by simp)) ?_
                        intro A7 c7 w7 hown hg hnew
                        have HA7 : Hid (AL bs wb w7 A7 (nb4 + 1) c7 ((blkL (ps.take q) ++ blkF (p.fs.take i)) ++ (f.ls.take (k + 1)).map fun n => (f.ino, f.ver, n)) A2 nn c2 (nodL (ps.take q))) := hide (by
                          rw [map_take HZN.out, ← List.append_assoc]
                          exact (HA5.out.bel ((Below.refl wr.heap.size wr).alloc (Nat.le_refl _) (.cells #[.int .i64 f.ino, .int .i64 f.ver, .int .i64 zn] 48))).tri (k := [(f.ino, f.ver, zn)]) rfl hg (by simpa [b3C] using hown))
                        clear hown hg hnew)
                      go_roundw
                      case rel => exact ⟨k + 1, nb4 + 1, A7, c7, by omega, by go_num, rfl, HA7.out⟩
                      case measure => simp [intOf]; omega
                    · have hkm' : k = m5 := by omega
                      have HK := hide hkm'
                      clear hkm'
                      go_wp2_with fail
                      go_roundw
                      case rel =>
                        refine ⟨i + 1, nb4, A4, c4, by omega, by go_num, ?_, rfl, ?_⟩
                        · have e := LT.out
                          have e2 := HSX.out
                          have e3 := HM5.out
                          exact congrArg (Value.int IntKind.i64) (by rw [e]; omega)
                        · have := HA5.out
                          have hfl : f.ls.take k = f.ls := List.take_of_length_le (by rw [← HM5.out, HK.out]; exact Nat.le_refl _)
                          rw [hfl, List.append_assoc, ← blkF_take HFI.out] at this
                          exact this.from HA4.out.kt
                      case measure => simp [intOf]; omega
                · have hin' : i = n1 := by omega
                  have hfull : p.fs.take i = p.fs := by rw [hin', HN1.out]; exact List.take_length
                  have HFULL := hide hfull
                  have KA5 := hide (KA.out.kt HA3.out.kt (by decide))
                  have a2 := KA5.out.cell 2
                  simp only [List.getElem?_toArray, List.getElem?_cons_succ, List.getElem?_cons_zero] at a2
                  have IW : Hid (IntsAt w3.heap.size w3.heap.size wr P2 n2 p.is) := hide (RwAt.below I1.out (by rw [← hbs]; exact BW5.out))
                  have HN := hide (show 2 + n2 + lsN (p.fs.take i) = blkN p.fs p.is by rw [hfull, HN2.out]; rfl)
                  obtain ⟨sx, hsx⟩ : ∃ x, x = 2 + n2 + lsN (p.fs.take i) := ⟨_, rfl⟩
                  rw [← hsx] at HN
                  rw [← hsx]
                  have hy1 : ¬ (sx : Int) < 3 := by have := OK.out.lo; rw [← HN.out] at this; omega
                  have hy2 : ¬ l2 < (sx : Int) := by have := OK.out.hi; rw [← HN.out, ← HLV.out, ← HL2'.out] at this; omega
                  have hsxb : sx ≤ 64 := by omega
                  clear hin' hfull hsx
                  go_wp2_with (
                    at_builtin
                    refine wpList_app _ rfl (.tmp 110) (.tmp 112) _ rfl etyJ bs (.slice A2 nn c2) nn _ rfl HA3.out.nd _ P2 n2 d2 (intC p.is) rfl IW.out.sl (intC_one _) (by omega) HA3.out.sz ?_
                    intro A7 c7 w7 hown hg hnew
                    have HA7 : Hid (AL bs wa w7 A3 nb' c3 (blkL (ps.take (q + 1))) A7 (nn + n2) c7 (nodL (ps.take (q + 1)))) := hide (by
                      have h9 := HA3.out.int (k := p.is) (m := nn + n2) (by rw [HN2.out]) hg hown
                      rw [HFULL.out, ← blkL_take HP.out, ← nodL_take HP.out] at h9
                      exact h9)
                    clear hown hg hnew)
                  go_roundw
                  case rel =>
                    refine ⟨q + 1, nb', nn + n2, l2 - (sx : Int), A3, A7, c3, c7, by omega, by go_num, ?_, ?_, rfl, rfl, HA7.out.from KTa.out⟩
                    · first | rfl | exact congrArg (Value.int IntKind.i64) (IntWalk.wrap64_in _ (by omega))
                    · rw [leftE_take HP.out, ← HLV.out, ← HL2'.out, HN.out]
                  case measure => simp [intOf]; omega
            · have hnwf : nw = false := by cases nw with | true => exact absurd rfl hnwt | false => rfl
              subst hnwf
              have hl2e : l2 = lv := by rw [HL3.out, if_neg (by decide)]
              subst hl2e
              go_wp2_with fail
              have KTa := hide (HAa.out.kt)
              have SZa := hide (HAa.out.sz)
              have NBD := hide (show (blkL (ps.take q)).length + lsN p.fs ≤ 300 by
                have e := congrArg List.length (blkL_take HP.out)
                rw [List.length_append, blkF_len] at e
                have e2 := (blkL_le ps (q + 1)).1
                have e3 := congrArg List.length PL.out.1
                rw [blkF_len] at e3
                have := HFEW.out.2
                omega)
              have NDD := hide (show (nodL (ps.take q)).length + p.is.length ≤ 300 by
                have e := congrArg List.length (nodL_take HP.out)
                rw [List.length_append] at e
                have e2 := (blkL_le ps (q + 1)).2
                have e3 := congrArg List.length PL.out.2.1
                have := HFEW.out.2
                omega)
              have hnnb : nn ≤ 300 := by have := HAa.out.ln'; have := NDD.out; omega
              go_loopw [11, 15, 68] (fun bl v y wr => ∃ (i nb' : Nat) (A3 : Option Addr) (c3 : Nat), i ≤ n1 ∧ y = .int .i64 (i : Int) ∧ v = .int .i64 ((2 + n2 + lsN (p.fs.take i) : Nat) : Int) ∧ bl = .slice A3 nb' c3 ∧ AL bs wa wr A3 nb' c3 (blkL (ps.take q) ++ blkF (p.fs.take i)) A2 nn c2 (nodL (ps.take q))) (fun _ _ y _ => n1 - (intOf y).toNat)
              case atStart => exact ⟨0, nb, A1, c1, Nat.zero_le _, rfl, by simp [lsN, sumN], rfl, by have := HAa.out.self; simpa [blkF] using this⟩
              case round =>
                obtain ⟨i, nb', A3, c3, hin, rfl, rfl, rfl, hAL⟩ := hrel
                have HA3 := hide hAL
                have BW5 := hide ((KTa.out.trans hAL.kt).below (Nat.le_of_eq HBS.out))
                clear hAL
                by_cases hlt2 : i < n1
                · obtain ⟨b5, off5, f, A5, c5, hA5, hFr, hfi, hI5, r0, r1, r2⟩ := F1.out.at hlt2
                  subst hA5
                  have HFI := hide hfi
                  have FL := hide (PK.out.2.2.2 f (List.mem_of_getElem? hfi))
                  have hb5 := hFr.2.1
                  have BWW : Below w4.heap.size w4 wr := by rw [← hbs]; exact BW5.out
                  replace r0 := (BWW.cell (p := ⟨b5, off5 + i * 3, none⟩) hb5).trans r0
                  replace r1 := (BWW.cell (p := ⟨b5, off5 + i * 3 + 1, none⟩) hb5).trans r1
                  replace r2 := (BWW.cell (p := ⟨b5, off5 + i * 3 + 2, none⟩) hb5).trans r2
                  have HI5 := hide hI5
                  obtain ⟨m5, hm5⟩ : ∃ n, n = f.ls.length := ⟨_, rfl⟩
                  rw [← hm5] at r2 HI5 FL
                  have HM5 := hide hm5
                  have LT := hide (lsN_take hfi)
                  have LE := hide (lsN_le p.fs (i + 1))
                  have hnn0 : nn = 0 := by
                    have h1 := OK.out.nod (fun e => by rw [e] at hfi; simp at hfi)
                    rw [HAa.out.ln', h1]; rfl
                  have hz1 : ¬ (m5 : Int) < 1 := by have := FL.out.1; omega
                  have hz2 : ¬ (30 : Int) < (m5 : Int) := by have := FL.out.2; omega
                  have hz3 : ¬ (0 : Int) < (nn : Int) := by omega
                  have hm5b : m5 ≤ 30 := FL.out.2
                  obtain ⟨sx, hsx⟩ : ∃ x, x = 2 + n2 + lsN (p.fs.take i) := ⟨_, rfl⟩
                  have hsxb : sx ≤ 700 := by have := LE.out; have := LT.out; have := NBD.out; omega
                  have HSX := hide hsx
                  rw [← hsx]
                  clear BWW hb5 hFr hfi hI5 hm5 hsx hnn0
                  have his : (i : Int) < (n1 : Int) := by omega
                  have hi64 : IntKind.i64.wrap (i : Int) = (i : Int) := by rw [IntKind.wrap_i64]; omega
                  obtain ⟨wb, hwb⟩ : ∃ W, W = wr.alloc (.cells #[.int .i64 f.ino, .int .i64 f.ver, .slice A5 m5 c5] 45) := ⟨_, rfl⟩
                  have KF : Hid (Blk wb wr.heap.size 45 #[.int .i64 f.ino, .int .i64 f.ver, .slice A5 m5 c5]) := hide (by rw [hwb]; exact Blk.new _ _ _)
                  have HA4 : Hid (AL bs wa wb A3 nb' c3 (blkL (ps.take q) ++ blkF (p.fs.take i)) A2 nn c2 (nodL (ps.take q))) := hide (by rw [hwb]; exact HA3.out.bel ((Below.refl _ _).alloc (Nat.le_refl _) _))
                  obtain ⟨bf, hbf⟩ : ∃ b, b = wr.heap.size := ⟨_, rfl⟩
                  rw [← hbf] at KF
                  go_upto_region 18 with fail
                  rw [← hwb, ← hbf]
                  clear hwb r0 r1 r2 hbf
                  have x2 := KF.out.cell 2
                  simp only [List.getElem?_toArray, List.getElem?_cons_succ, List.getElem?_cons_zero] at x2
                  go_wp2_with fail
                  clear x2
                  go_loopw [11, 19, 95] (fun bl _ y wr => ∃ (k nb4 : Nat) (A4 : Option Addr) (c4 : Nat), k ≤ m5 ∧ y = .int .i64 (k : Int) ∧ bl = .slice A4 nb4 c4 ∧ AL bs wb wr A4 nb4 c4 ((blkL (ps.take q) ++ blkF (p.fs.take i)) ++ (f.ls.take k).map fun n => (f.ino, f.ver, n)) A2 nn c2 (nodL (ps.take q))) (fun _ _ y _ => m5 - (intOf y).toNat)
                  case atStart => exact ⟨0, nb', A3, c3, Nat.zero_le _, rfl, rfl, by have := HA4.out.self; simpa using this⟩
                  case round =>
                    obtain ⟨k, nb4, A4, c4, hkm, rfl, rfl, hAL⟩ := hrel
                    have HA5 := hide hAL
                    have BW6 := hide ((KTa.out.trans (HA4.out.kt.trans hAL.kt)).below (Nat.le_of_eq HBS.out))
                    have KF6 := hide (KF.out.kt hAL.kt (by decide))
                    clear hAL
                    by_cases hlt3 : k < m5
                    · obtain ⟨zn, hzn⟩ : ∃ x, f.ls[k]? = some x := ⟨_, List.getElem?_eq_getElem (by rw [← HM5.out]; exact hlt3)⟩
                      obtain ⟨b6, off6, hA6, hF6, hc6⟩ := RwAt.at HI5.out (by omega) (by decide)
                      have z6 := hc6 k (.int .i64 zn) (by rw [intC, List.getElem?_map, hzn]; rfl)
                      subst hA6
                      have BWW : Below w4.heap.size w4 wr := by rw [← hbs]; exact BW6.out
                      replace z6 := (BWW.cell (p := ⟨b6, off6 + k, none⟩) hF6.2.1).trans z6
                      have HZN := hide hzn
                      have x0 := KF6.out.cell 0
                      have x1 := KF6.out.cell 1
                      simp only [List.getElem?_toArray, List.getElem?_cons_succ, List.getElem?_cons_zero] at x0 x1
                      have hnb4 : nb4 ≤ 300 := by
                        have e := HA5.out.ln
                        rw [List.length_append, List.length_append, blkF_len, List.length_map, List.length_take] at e
                        have := NBD.out
                        have := LE.out
                        have := LT.out
                        have := HM5.out
                        omega
                      have lt3 := fun w xs h => one_tri w xs h
                      have hks : (k : Int) < (m5 : Int) := by omega
                      have hk64 : IntKind.i64.wrap (k : Int) = (k : Int) := by rw [IntKind.wrap_i64]; omega
                      clear hzn hF6 hc6 BWW
                      go_wp2_with (
                        at_builtin
                        refine wpList_appK rfl (.tmp 99) (.tmp 106) _ rfl etyT3 bs (.slice A4 nb4 c4) nb4 _ rfl (own_bel HA5.out.bl ((Below.refl wr.heap.size wr).alloc (Nat.le_refl _) (.cells #[.int .i64 f.ino, .int .i64 f.ver, .int .i64 zn] 48))) (wr.heap.size + 1) (some ⟨wr.heap.size, 0, none⟩) 1 1 (b3 (f.ino, f.ver, zn)) rfl (slc_new wr (b3 (f.ino, f.ver, zn)) _ rfl) (b3_one _) (by omega) (Nat.le_trans HA5.out.sz (by simp)) ?_
                        intro A7 c7 w7 hown hg hnew
                        have HA7 : Hid (AL bs wb w7 A7 (nb4 + 1) c7 ((blkL (ps.take q) ++ blkF (p.fs.take i)) ++ (f.ls.take (k + 1)).map fun n => (f.ino, f.ver, n)) A2 nn c2 (nodL (ps.take q))) := hide (by
                          rw [map_take HZN.out, ← List.append_assoc]
                          exact (HA5.out.bel ((Below.refl wr.heap.size wr).alloc (Nat.le_refl _) (.cells #[.int .i64 f.ino, .int .i64 f.ver, .int .i64 zn] 48))).tri (k := [(f.ino, f.ver, zn)]) rfl hg (by simpa [b3C] using hown))
                        clear hown hg hnew)
                      go_roundw
                      case rel => exact ⟨k + 1, nb4 + 1, A7, c7, by omega, by go_num, rfl, HA7.out⟩
                      case measure => simp [intOf]; omega
                    · have hkm' : k = m5 := by omega
                      have HK := hide hkm'
                      clear hkm'
                      go_wp2_with fail
                      go_roundw
                      case rel =>
                        refine ⟨i + 1, nb4, A4, c4, by omega, by go_num, ?_, rfl, ?_⟩
                        · have e := LT.out
                          have e2 := HSX.out
                          have e3 := HM5.out
                          exact congrArg (Value.int IntKind.i64) (by rw [e]; omega)
                        · have := HA5.out
                          have hfl : f.ls.take k = f.ls := List.take_of_length_le (by rw [← HM5.out, HK.out]; exact Nat.le_refl _)
                          rw [hfl, List.append_assoc, ← blkF_take HFI.out] at this
                          exact this.from HA4.out.kt
                      case measure => simp [intOf]; omega
                · have hin' : i = n1 := by omega
                  have hfull : p.fs.take i = p.fs := by rw [hin', HN1.out]; exact List.take_length
                  have HFULL := hide hfull
                  have KA5 := hide (KA.out.kt HA3.out.kt (by decide))
                  have a2 := KA5.out.cell 2
                  simp only [List.getElem?_toArray, List.getElem?_cons_succ, List.getElem?_cons_zero] at a2
                  have IW : Hid (IntsAt w3.heap.size w3.heap.size wr P2 n2 p.is) := hide (RwAt.below I1.out (by rw [← hbs]; exact BW5.out))
                  have HN := hide (show 2 + n2 + lsN (p.fs.take i) = blkN p.fs p.is by rw [hfull, HN2.out]; rfl)
                  obtain ⟨sx, hsx⟩ : ∃ x, x = 2 + n2 + lsN (p.fs.take i) := ⟨_, rfl⟩
                  rw [← hsx] at HN
                  rw [← hsx]
                  have hy1 : ¬ (sx : Int) < 3 := by have := OK.out.lo; rw [← HN.out] at this; omega
                  have hy2 : ¬ l2 < (sx : Int) := by have := OK.out.hi; rw [← HN.out, ← HLV.out, ← HL2'.out] at this; omega
                  have hsxb : sx ≤ 64 := by omega
                  clear hin' hfull hsx
                  go_wp2_with (
                    at_builtin
                    refine wpList_app _ rfl (.tmp 110) (.tmp 112) _ rfl etyJ bs (.slice A2 nn c2) nn _ rfl HA3.out.nd _ P2 n2 d2 (intC p.is) rfl IW.out.sl (intC_one _) (by omega) HA3.out.sz ?_
                    intro A7 c7 w7 hown hg hnew
                    have HA7 : Hid (AL bs wa w7 A3 nb' c3 (blkL (ps.take (q + 1))) A7 (nn + n2) c7 (nodL (ps.take (q + 1)))) := hide (by
                      have h9 := HA3.out.int (k := p.is) (m := nn + n2) (by rw [HN2.out]) hg hown
                      rw [HFULL.out, ← blkL_take HP.out, ← nodL_take HP.out] at h9
                      exact h9)
                    clear hown hg hnew)
                  go_roundw
                  case rel =>
                    refine ⟨q + 1, nb', nn + n2, l2 - (sx : Int), A3, A7, c3, c7, by omega, by go_num, ?_, ?_, rfl, rfl, HA7.out.from KTa.out⟩
                    · first | rfl | exact congrArg (Value.int IntKind.i64) (IntWalk.wrap64_in _ (by omega))
                    · rw [leftE_take HP.out, ← HLV.out, ← HL2'.out, HN.out]
                  case measure => simp [intOf]; omega
          · have hqL' : q = L := by omega
            have e1 : blkL (ps.take q) = blkF files := by rw [hqL', HL.out, List.take_length]; exact PL.out.1
            have e2 : nodL (ps.take q) = inos := by rw [hqL', HL.out, List.take_length]; exact PL.out.2.1
            rw [e1, e2] at HA
            have T3 : Hid (RwAt bs bs 48 3 wr A1 nb (b3C (blkF files))) := hide (RwAt.of_own HA.out.bl)
            have N3 : Hid (IntsAt bs bs wr A2 nn inos) := hide (RwAt.of_own HA.out.nd)
            have hnb : nb = lsN files := by rw [HA.out.ln, blkF_len]
            have hnn : nn = m' := by rw [HA.out.ln', HL2.out]
            have B8 : Hid (Below w.heap.size w wr) := hide (B4.out.trans (BW4.out.mono W4S.out))
            have NBB := hide (show nb ≤ 300 by have := HFEW.out.2; omega)
            have MBB := hide (show m ≤ 300 ∧ m' ≤ 300 by have := HFEW.out; unfold fewP at this; have := HL1.out; have := HL2.out; omega)
            have HNB := hide hnb
            have HNN := hide hnn
            clear e1 e2 hqL' hnb hnn
            go_wp2_with fail
            go_loopw [20, 127] (fun v y wq => ∃ i : Nat, i ≤ m ∧ y = .int .i64 (i : Int) ∧ v = .int .i64 ((lsN (files.take i) : Nat) : Int) ∧ Below wr.heap.size wr wq) (fun _ y _ => m - (intOf y).toNat)
            case atStart => exact ⟨0, Nat.zero_le _, rfl, rfl, Below.refl _ _⟩
            case round =>
              obtain ⟨i, him, rfl, rfl, hb⟩ := hrel
              have Hb := hide hb
              have BQ := hide (B8.out.trans (hb.mono B8.out.size))
              clear hb
              by_cases hlt2 : i < m
              · obtain ⟨b5, off5, f, A5, c5, hA5, hFr, hfi, hI5, r0, r1, r2⟩ := (HF.out.below BQ.out).at hlt2
                subst hA5
                have HFI := hide hfi
                have FL := hide (HLS.out f (List.mem_of_getElem? hfi))
                have HI5 := hide hI5
                obtain ⟨m5, hm5⟩ : ∃ n, n = f.ls.length := ⟨_, rfl⟩
                rw [← hm5] at r2 HI5 FL
                have HM5 := hide hm5
                have LT := hide (lsN_take hfi)
                have LE := hide (lsN_le files (i + 1))
                have hm5b : m5 ≤ 300 := by have := HNB.out; have := NBB.out; have := LE.out; have := LT.out; omega
                obtain ⟨sx, hsx⟩ : ∃ x, x = lsN (files.take i) := ⟨_, rfl⟩
                have HSX := hide hsx
                have hsxb : sx + m5 ≤ nb := by have := HNB.out; have := LE.out; have := LT.out; omega
                have hnbb := NBB.out
                rw [← hsx]
                clear hFr hfi hI5 hm5 hsx
                have hmb := MBB.out.1
                have his : (i : Int) < (m : Int) := by omega
                have hi64 : IntKind.i64.wrap (i : Int) = (i : Int) := by rw [IntKind.wrap_i64]; omega
                obtain ⟨wb, hwb⟩ : ∃ W, W = wr.alloc (.cells #[.int .i64 f.ino, .int .i64 f.ver, .slice A5 m5 c5] 45) := ⟨_, rfl⟩
                have KF : Hid (Blk wb wr.heap.size 45 #[.int .i64 f.ino, .int .i64 f.ver, .slice A5 m5 c5]) := hide (by rw [hwb]; exact Blk.new _ _ _)
                have BA : Hid (Below wr.heap.size wr wb) := hide (by rw [hwb]; exact (Below.refl _ _).alloc (Nat.le_refl _) _)
                obtain ⟨bf, hbf⟩ : ∃ b, b = wr.heap.size := ⟨_, rfl⟩
                rw [← hbf] at KF
                go_upto_region 36 with fail
                rw [← hwb, ← hbf]
                clear hwb r0 r1 r2 hbf
                have x2 := KF.out.cell 2
                simp only [List.getElem?_toArray, List.getElem?_cons_succ, List.getElem?_cons_zero] at x2
                go_wp2_with fail
                clear x2
                have HB2 := hide (Hb.out.trans (BA.out.mono Hb.out.size))
                have BQ2 := hide (BQ.out.trans (BA.out.mono BQ.out.size))
                have HI6 := hide (RwAt.below HI5.out BA.out)
                go_loopw [20, 24, 134] (fun v _ y wq => ∃ k : Nat, k ≤ m5 ∧ y = .int .i64 (k : Int) ∧ v = .int .i64 ((sx + k : Nat) : Int) ∧ Below wb.heap.size wb wq) (fun _ _ y _ => m5 - (intOf y).toNat)
                case atStart => exact ⟨0, Nat.zero_le _, rfl, rfl, Below.refl _ _⟩
                case round =>
                  obtain ⟨k, hkm, rfl, rfl, hb⟩ := hrel
                  have Hb3 := hide hb
                  have HB3 := hide (HB2.out.trans (hb.mono HB2.out.size))
                  have BQ3 := hide (BQ2.out.trans (hb.mono BQ2.out.size))
                  have KF6 := hide (KF.out.below hb)
                  clear hb
                  by_cases hlt3 : k < m5
                  · obtain ⟨zn, hzn⟩ : ∃ x, f.ls[k]? = some x := ⟨_, List.getElem?_eq_getElem (by rw [← HM5.out]; exact hlt3)⟩
                    obtain ⟨b6, off6, hA6, hF6, hc6⟩ := (RwAt.below HI6.out Hb3.out).at (by omega) (by decide)
                    have z6 := hc6 k (.int .i64 zn) (by rw [intC, List.getElem?_map, hzn]; rfl)
                    subst hA6
                    have hbt := blkF_at HFI.out hzn
                    rw [← HSX.out] at hbt
                    obtain ⟨bT, offT, hAT, hFT, hcT⟩ := (RwAt.below T3.out HB3.out).at (show 0 < nb by omega) (by decide)
                    obtain ⟨t, ht⟩ : ∃ t, t = sx + k := ⟨_, rfl⟩
                    rw [← ht] at hbt
                    have g0 := b3C_get (blkF files) t 0 (by decide)
                    have g1 := b3C_get (blkF files) t 1 (by decide)
                    have g2 := b3C_get (blkF files) t 2 (by decide)
                    rw [hbt, Option.bind_some] at g0 g1 g2
                    have t0 := hcT _ _ g0
                    have t1 := hcT _ _ g1
                    have t2 := hcT _ _ g2
                    rw [← Nat.add_assoc] at t1 t2
                    simp only [Nat.add_zero] at t0
                    subst hAT
                    have x0 := KF6.out.cell 0
                    have x1 := KF6.out.cell 1
                    simp only [List.getElem?_toArray, List.getElem?_cons_succ, List.getElem?_cons_zero] at x0 x1
                    have hsm := t3_same f.ino f.ver zn FL.out.1 FL.out.2.1 (FL.out.2.2.1 zn (List.mem_of_getElem? hzn))
                    have htn : ¬ (nb : Int) ≤ (t : Int) := by omega
                    have htn2 : (t : Int) < (nb : Int) := by omega
                    have ht64 : IntKind.i64.wrap (t : Int) = (t : Int) := by rw [IntKind.wrap_i64]; omega
                    have hk64 : IntKind.i64.wrap (k : Int) = (k : Int) := by rw [IntKind.wrap_i64]; omega
                    have hks : (k : Int) < (m5 : Int) := by omega
                    rw [← ht]
                    have HT := hide ht
                    have htb : t ≤ 300 := by omega
                    have S0 := hide (show wr.drew.cell? ⟨bT, offT + t * 3, none⟩ = some (.int .i64 f.ino) ∧ wr.drew.cell? ⟨bT, offT + t * 3 + 1, none⟩ = some (.int .i64 f.ver) ∧ wr.drew.cell? ⟨bT, offT + t * 3 + 2, none⟩ = some (.int .i64 zn) ∧ wr.drew.cell? ⟨bf, 0, none⟩ = some (.int .i64 f.ino) ∧ wr.drew.cell? ⟨bf, 1, none⟩ = some (.int .i64 f.ver) from ⟨t0, t1, t2, x0, x1⟩)
                    clear hzn hF6 hc6 hFT hcT g0 g1 g2 t0 t1 t2 x0 x1 ht hbt
                    go_wp2_with fail
                    have s0 := S0.out
                    refine wp_region_noPanic ?_
                    refine wp_region_held_drew (S := (fun w' => w'.cell? ⟨bT, offT + t * 3, none⟩ = some (.int .i64 f.ino) ∧ w'.cell? ⟨bT, offT + t * 3 + 1, none⟩ = some (.int .i64 f.ver) ∧ w'.cell? ⟨bT, offT + t * 3 + 2, none⟩ = some (.int .i64 zn) ∧ w'.cell? ⟨bf, 0, none⟩ = some (.int .i64 f.ino) ∧ w'.cell? ⟨bf, 1, none⟩ = some (.int .i64 f.ver))) (by kernel_rfl) ?_ (fun hHeld => ?_)
                    · ((try dsimp only) <;> (first | trivial | assumption | go_keep))
                    clear s0
                    have hd1 : decide (nb ≤ t) = false := decide_eq_false (by omega)
                    have hd2 : decide ((nb : Int) ≤ (t : Int)) = false := decide_eq_false (by omega)
                    refine wpAnyH_take (i := 0) (v := ?_) (by simp only [List.getElem?_toArray, List.getElem?_cons_succ, List.getElem?_cons_zero]; rfl) (by kernel_rfl) (by kernel_rfl) (by kernel_rfl) (fun _ _ _ h => h) (Or.inl ⟨by rfl, ?_⟩) (by assumption) ?_
                    rotate_left 1
                    · (intro w hSw; (try dsimp only at hSw); go_simp; try with_reducible rfl)
                    try simp only [Act.put, List.setIfInBounds_toArray, List.set_cons_zero, List.set_cons_succ]
                    refine wpAnyH_take (i := 1) (v := ?_) (by simp only [List.getElem?_toArray, List.getElem?_cons_succ, List.getElem?_cons_zero]; rfl) (by kernel_rfl) (by kernel_rfl) (by kernel_rfl) (fun _ _ _ h => h) (Or.inl ⟨by rfl, ?_⟩) (by assumption) ?_
                    rotate_left 1
                    · (intro w hSw; (try dsimp only at hSw); go_simp; try with_reducible rfl)
                    try simp only [Act.put, List.setIfInBounds_toArray, List.set_cons_zero, List.set_cons_succ]
                    refine wpAnyH_take (i := 2) (v := ?_) (by simp only [List.getElem?_toArray, List.getElem?_cons_succ, List.getElem?_cons_zero]; rfl) (by kernel_rfl) (by kernel_rfl) (by kernel_rfl) (fun _ _ _ h => h) (Or.inl ⟨by rfl, ?_⟩) (by assumption) ?_
                    rotate_left 1
                    · (intro w hSw; (try dsimp only at hSw); go_simp; try with_reducible rfl)
                    try simp only [Act.put, List.setIfInBounds_toArray, List.set_cons_zero, List.set_cons_succ]
                    refine wpAnyH_take (i := 3) (v := ?_) (by simp only [List.getElem?_toArray, List.getElem?_cons_succ, List.getElem?_cons_zero]; rfl) (by kernel_rfl) (by kernel_rfl) (by kernel_rfl) (fun _ _ _ h => h) (Or.inl ⟨by rfl, ?_⟩) (by assumption) ?_
                    rotate_left 1
                    · (intro w hSw; (try dsimp only at hSw); go_simp; try with_reducible rfl)
                    try simp only [Act.put, List.setIfInBounds_toArray, List.set_cons_zero, List.set_cons_succ]
                    try simp only [ge_iff_le, hd1, hd2]
                    refine wpAnyH_take (i := 4) (v := ?_) (by simp only [List.getElem?_toArray, List.getElem?_cons_succ, List.getElem?_cons_zero]; rfl) (by kernel_rfl) (by kernel_rfl) (by kernel_rfl) (fun _ _ _ h => h) (Or.inl ⟨by rfl, ?_⟩) (by assumption) ?_
                    rotate_left 1
                    · (intro w hSw; (try dsimp only at hSw); go_simp; try with_reducible rfl)
                    try simp only [Act.put, List.setIfInBounds_toArray, List.set_cons_zero, List.set_cons_succ]
                    refine wpAnyH_take (i := 5) (v := ?_) (by simp only [List.getElem?_toArray, List.getElem?_cons_succ, List.getElem?_cons_zero]; rfl) (by kernel_rfl) (by kernel_rfl) (by kernel_rfl) (fun _ _ _ h => h) (Or.inl ⟨by rfl, ?_⟩) (by assumption) ?_
                    rotate_left 1
                    · (intro w hSw; (try dsimp only at hSw); go_simp; try with_reducible rfl)
                    try simp only [Act.put, List.setIfInBounds_toArray, List.set_cons_zero, List.set_cons_succ]
                    refine wpAnyH_take (i := 6) (v := ?_) (by simp only [List.getElem?_toArray, List.getElem?_cons_succ, List.getElem?_cons_zero]; rfl) (by kernel_rfl) (by kernel_rfl) (by kernel_rfl) (fun _ _ _ h => h) (Or.inl ⟨by rfl, ?_⟩) (by assumption) ?_
                    rotate_left 1
                    · (intro w hSw; (try dsimp only at hSw); go_simp; try with_reducible rfl)
                    try simp only [Act.put, List.setIfInBounds_toArray, List.set_cons_zero, List.set_cons_succ]
                    refine wpAnyH_take (i := 7) (v := ?_) (by simp only [List.getElem?_toArray, List.getElem?_cons_succ, List.getElem?_cons_zero]; rfl) (by kernel_rfl) (by kernel_rfl) (by kernel_rfl) (fun _ _ _ h => h) (Or.inl ⟨by rfl, ?_⟩) (by assumption) ?_
                    rotate_left 1
                    · (intro w hSw; (try dsimp only at hSw); go_simp; try with_reducible rfl)
                    try simp only [Act.put, List.setIfInBounds_toArray, List.set_cons_zero, List.set_cons_succ]
                    refine wpAnyH_take (i := 8) (v := ?_) (by simp only [List.getElem?_toArray, List.getElem?_cons_succ, List.getElem?_cons_zero]; rfl) (by kernel_rfl) (by kernel_rfl) (by kernel_rfl) (fun _ _ _ h => h) (Or.inl ⟨by rfl, ?_⟩) (by assumption) ?_
                    rotate_left 1
                    · (intro w hSw; (try dsimp only at hSw); go_simp; try with_reducible rfl)
                    try simp only [Act.put, List.setIfInBounds_toArray, List.set_cons_zero, List.set_cons_succ]
                    refine wpAnyH_take (i := 9) (v := ?_) (by simp only [List.getElem?_toArray, List.getElem?_cons_succ, List.getElem?_cons_zero]; rfl) (by kernel_rfl) (by kernel_rfl) (by kernel_rfl) (fun _ _ _ h => h) (Or.inl ⟨by rfl, ?_⟩) (by assumption) ?_
                    rotate_left 1
                    · (intro w hSw; (try dsimp only at hSw); go_simp; try with_reducible rfl)
                    try simp only [Act.put, List.setIfInBounds_toArray, List.set_cons_zero, List.set_cons_succ]
                    refine wpAnyH_take (i := 10) (v := ?_) (by simp only [List.getElem?_toArray, List.getElem?_cons_succ, List.getElem?_cons_zero]; rfl) (by kernel_rfl) (by kernel_rfl) (by kernel_rfl) (fun _ _ _ h => h) (Or.inl ⟨by rfl, ?_⟩) (by assumption) ?_
                    rotate_left 1
                    · (intro w hSw; (try dsimp only at hSw); go_simp; try with_reducible rfl)
                    try simp only [Act.put, List.setIfInBounds_toArray, List.set_cons_zero, List.set_cons_succ]
                    refine wpAnyH_take (i := 11) (v := ?_) (by simp only [List.getElem?_toArray, List.getElem?_cons_succ, List.getElem?_cons_zero]; rfl) (by kernel_rfl) (by kernel_rfl) (by kernel_rfl) (fun _ _ _ h => h) (Or.inl ⟨by rfl, ?_⟩) (by assumption) ?_
                    rotate_left 1
                    · (intro w hSw; (try dsimp only at hSw); go_simp; try with_reducible rfl)
                    try simp only [Act.put, List.setIfInBounds_toArray, List.set_cons_zero, List.set_cons_succ]
                    refine wpAnyH_take (i := 12) (v := ?_) (by simp only [List.getElem?_toArray, List.getElem?_cons_succ, List.getElem?_cons_zero]; rfl) (by kernel_rfl) (by kernel_rfl) (by kernel_rfl) (fun _ _ _ h => h) (Or.inl ⟨by rfl, ?_⟩) (by assumption) ?_
                    rotate_left 1
                    · (intro w hSw; (try dsimp only at hSw); go_simp; try with_reducible rfl)
                    try simp only [Act.put, List.setIfInBounds_toArray, List.set_cons_zero, List.set_cons_succ]
                    refine wpAnyH_take (i := 13) (v := ?_) (by simp only [List.getElem?_toArray, List.getElem?_cons_succ, List.getElem?_cons_zero]; rfl) (by kernel_rfl) (by kernel_rfl) (by kernel_rfl) (fun _ _ _ h => h) (Or.inl ⟨by rfl, ?_⟩) (by assumption) ?_
                    rotate_left 1
                    · (intro w hSw; (try dsimp only at hSw); go_simp; try with_reducible rfl)
                    try simp only [Act.put, List.setIfInBounds_toArray, List.set_cons_zero, List.set_cons_succ]
                    refine wpAnyH_take (i := 14) (v := ?_) (by simp only [List.getElem?_toArray, List.getElem?_cons_succ, List.getElem?_cons_zero]; rfl) (by kernel_rfl) (by kernel_rfl) (by kernel_rfl) (fun _ _ _ h => h) (Or.inl ⟨by rfl, ?_⟩) (by assumption) ?_
                    rotate_left 1
                    · (intro w hSw; (try dsimp only at hSw); go_simp; try with_reducible rfl)
                    try simp only [Act.put, List.setIfInBounds_toArray, List.set_cons_zero, List.set_cons_succ]
                    refine wpAnyH_take (i := 15) (v := ?_) (by simp only [List.getElem?_toArray, List.getElem?_cons_succ, List.getElem?_cons_zero]; rfl) (by kernel_rfl) (by kernel_rfl) (by kernel_rfl) (fun _ _ _ h => h) (Or.inl ⟨by rfl, ?_⟩) (by assumption) ?_
                    rotate_left 1
                    · (intro w hSw; (try dsimp only at hSw); go_simp; try with_reducible rfl)
                    try simp only [Act.put, List.setIfInBounds_toArray, List.set_cons_zero, List.set_cons_succ]
                    refine wpAnyH_take (i := 16) (v := ?_) (by simp only [List.getElem?_toArray, List.getElem?_cons_succ, List.getElem?_cons_zero]; rfl) (by kernel_rfl) (by kernel_rfl) (by kernel_rfl) (fun _ _ _ h => h) (Or.inl ⟨by rfl, ?_⟩) (by assumption) ?_
                    rotate_left 1
                    · (intro w hSw; (try dsimp only at hSw); go_simp; try with_reducible rfl)
                    try simp only [Act.put, List.setIfInBounds_toArray, List.set_cons_zero, List.set_cons_succ]
                    refine wpAnyH_done (by kernel_rfl) ?_ _
                    refine NoPanic.normal ?_
                    go_wp2_with fail
                    go_roundw
                    case rel => exact ⟨k + 1, by omega, by go_num, by rw [show sx + (k + 1) = t + 1 by have := HT.out; omega]; go_num, Hb3.out.drew⟩
                    case measure => simp [intOf]; omega
                  · have hkm' : k = m5 := by omega
                    have HK := hide hkm'
                    clear hkm'
                    go_wp2_with fail
                    go_roundw
                    case rel => exact ⟨i + 1, by omega, by go_num, by rw [LT.out, ← HSX.out, ← HM5.out, HK.out], HB3.out⟩
                    case measure => simp [intOf]; omega
              · have hmi : i = m := by omega
                have hat : lsN (files.take i) = nb := by rw [hmi, ← HL1.out, List.take_length]; exact HNB.out.symm
                rw [hat]
                have hnn3 : ((nn : Int) != (m' : Int)) = false := by rw [HNN.out]; exact bne_self_eq_false _
                clear hat hmi
                go_wp2_with fail
                have N4 := hide (RwAt.below N3.out Hb.out)
                have HI4 := hide (RwAt.below HI.out BQ.out)
                clear hnn3
                go_loopw [25, 172] (fun _ y wq => ∃ k : Nat, k ≤ nn ∧ y = .int .i64 (k : Int) ∧ Below wr.heap.size wr wq) (fun _ y _ => nn - (intOf y).toNat)
                case atStart => exact ⟨0, Nat.zero_le _, rfl, Below.refl _ _⟩
                case round =>
                  obtain ⟨k, hkn, rfl, hb⟩ := hrel
                  have Hb3 := hide hb
                  have BQ3 := hide (BQ.out.trans (hb.mono BQ.out.size))
                  clear hb
                  by_cases hlt3 : k < nn
                  · obtain ⟨zn, hzn⟩ : ∃ x, inos[k]? = some x := ⟨_, List.getElem?_eq_getElem (by rw [HL2.out, ← HNN.out]; exact hlt3)⟩
                    obtain ⟨b6, off6, hA6, -, hc6⟩ := (RwAt.below N4.out Hb3.out).at (by omega) (by decide)
                    obtain ⟨b7, off7, hA7, -, hc7⟩ := (RwAt.below HI4.out Hb3.out).at (show 0 < m' by have := HNN.out; omega) (by decide)
                    have z6 : wr.drew.cell? ⟨b6, off6 + k, none⟩ = _ := hc6 k (.int .i64 zn) (by rw [intC, List.getElem?_map, hzn]; rfl)
                    have z7 : wr.drew.cell? ⟨b7, off7 + k, none⟩ = _ := hc7 k (.int .i64 zn) (by rw [intC, List.getElem?_map, hzn]; rfl)
                    subst hA6 hA7
                    have hks : (k : Int) < (nn : Int) := by omega
                    have hks2 : (k : Int) < (m' : Int) := by have := HNN.out; omega
                    have hk64 : IntKind.i64.wrap (k : Int) = (k : Int) := by rw [IntKind.wrap_i64]; have := MBB.out.2; omega
                    have hkb : k ≤ 300 := by have := HNN.out; have := MBB.out.2; omega
                    have S0 := hide (And.intro z6 z7)
                    clear hzn hc6 hc7 z6 z7
                    go_wp2_with fail
                    have s0 := S0.out
                    refine wp_region_noPanic ?_
                    refine wp_region_held_drew (S := (fun w' => w'.cell? ⟨b6, off6 + k, none⟩ = some (.int .i64 zn) ∧ w'.cell? ⟨b7, off7 + k, none⟩ = some (.int .i64 zn))) (by kernel_rfl) ?_ (fun hHeld => ?_)
                    · ((try dsimp only) <;> (first | trivial | assumption | go_keep))
                    clear s0
                    refine wpAnyH_take (i := 0) (v := ?_) (by simp only [List.getElem?_toArray, List.getElem?_cons_succ, List.getElem?_cons_zero]; rfl) (by kernel_rfl) (by kernel_rfl) (by kernel_rfl) (fun _ _ _ h => h) (Or.inl ⟨by rfl, ?_⟩) (by assumption) ?_
                    rotate_left 1
                    · (intro w hSw; (try dsimp only at hSw); go_simp; try with_reducible rfl)
                    try simp only [Act.put, List.setIfInBounds_toArray, List.set_cons_zero, List.set_cons_succ]
                    refine wpAnyH_take (i := 1) (v := ?_) (by simp only [List.getElem?_toArray, List.getElem?_cons_succ, List.getElem?_cons_zero]; rfl) (by kernel_rfl) (by kernel_rfl) (by kernel_rfl) (fun _ _ _ h => h) (Or.inl ⟨by rfl, ?_⟩) (by assumption) ?_
                    rotate_left 1
                    · (intro w hSw; (try dsimp only at hSw); go_simp; try with_reducible rfl)
                    try simp only [Act.put, List.setIfInBounds_toArray, List.set_cons_zero, List.set_cons_succ]
                    refine wpAnyH_take (i := 2) (v := ?_) (by simp only [List.getElem?_toArray, List.getElem?_cons_succ, List.getElem?_cons_zero]; rfl) (by kernel_rfl) (by kernel_rfl) (by kernel_rfl) (fun _ _ _ h => h) (Or.inl ⟨by rfl, ?_⟩) (by assumption) ?_
                    rotate_left 1
                    · (intro w hSw; (try dsimp only at hSw); go_simp; try with_reducible rfl)
                    try simp only [Act.put, List.setIfInBounds_toArray, List.set_cons_zero, List.set_cons_succ]
                    refine wpAnyH_take (i := 3) (v := ?_) (by simp only [List.getElem?_toArray, List.getElem?_cons_succ, List.getElem?_cons_zero]; rfl) (by kernel_rfl) (by kernel_rfl) (by kernel_rfl) (fun _ _ _ h => h) (Or.inl ⟨by rfl, ?_⟩) (by assumption) ?_
                    rotate_left 1
                    · (intro w hSw; (try dsimp only at hSw); go_simp; try with_reducible rfl)
                    try simp only [Act.put, List.setIfInBounds_toArray, List.set_cons_zero, List.set_cons_succ]
                    refine wpAnyH_take (i := 4) (v := ?_) (by simp only [List.getElem?_toArray, List.getElem?_cons_succ, List.getElem?_cons_zero]; rfl) (by kernel_rfl) (by kernel_rfl) (by kernel_rfl) (fun _ _ _ h => h) (Or.inl ⟨by rfl, ?_⟩) (by assumption) ?_
                    rotate_left 1
                    · (intro w hSw; (try dsimp only at hSw); go_simp; try with_reducible rfl)
                    try simp only [Act.put, List.setIfInBounds_toArray, List.set_cons_zero, List.set_cons_succ]
                    refine wpAnyH_take (i := 5) (v := ?_) (by simp only [List.getElem?_toArray, List.getElem?_cons_succ, List.getElem?_cons_zero]; rfl) (by kernel_rfl) (by kernel_rfl) (by kernel_rfl) (fun _ _ _ h => h) (Or.inl ⟨by rfl, ?_⟩) (by assumption) ?_
                    rotate_left 1
                    · (intro w hSw; (try dsimp only at hSw); go_simp; try with_reducible rfl)
                    try simp only [Act.put, List.setIfInBounds_toArray, List.set_cons_zero, List.set_cons_succ]
                    refine wpAnyH_take (i := 6) (v := ?_) (by simp only [List.getElem?_toArray, List.getElem?_cons_succ, List.getElem?_cons_zero]; rfl) (by kernel_rfl) (by kernel_rfl) (by kernel_rfl) (fun _ _ _ h => h) (Or.inl ⟨by rfl, ?_⟩) (by assumption) ?_
                    rotate_left 1
                    · (intro w hSw; (try dsimp only at hSw); go_simp; try with_reducible rfl)
                    try simp only [Act.put, List.setIfInBounds_toArray, List.set_cons_zero, List.set_cons_succ]
                    refine wpAnyH_take (i := 7) (v := ?_) (by simp only [List.getElem?_toArray, List.getElem?_cons_succ, List.getElem?_cons_zero]; rfl) (by kernel_rfl) (by kernel_rfl) (by kernel_rfl) (fun _ _ _ h => h) (Or.inl ⟨by rfl, ?_⟩) (by assumption) ?_
                    rotate_left 1
                    · (intro w hSw; (try dsimp only at hSw); go_simp; try with_reducible rfl)
                    try simp only [Act.put, List.setIfInBounds_toArray, List.set_cons_zero, List.set_cons_succ]
                    refine wpAnyH_take (i := 8) (v := ?_) (by simp only [List.getElem?_toArray, List.getElem?_cons_succ, List.getElem?_cons_zero]; rfl) (by kernel_rfl) (by kernel_rfl) (by kernel_rfl) (fun _ _ _ h => h) (Or.inl ⟨by rfl, ?_⟩) (by assumption) ?_
                    rotate_left 1
                    · (intro w hSw; (try dsimp only at hSw); go_simp; try with_reducible rfl)
                    try simp only [Act.put, List.setIfInBounds_toArray, List.set_cons_zero, List.set_cons_succ]
                    refine wpAnyH_done (by kernel_rfl) ?_ _
                    refine NoPanic.normal ?_
                    go_wp2_with fail
                    go_roundw
                    case rel => exact ⟨k + 1, by omega, by go_num, Hb3.out.drew⟩
                    case measure => simp [intOf]; omega
                  · go_wp2_with fail
                    go_ret
                    exact ⟨rfl, BQ3.out⟩
  · rw [decide_eq_false hfew]
    go_wp2_with fail
    refine (awake13 w2).mono ?_
    rintro e w3 ⟨rfl, hb⟩
    have B3 := hide (B2.out.trans (hb.mono B2.out.size))
    clear hb
    go_wp2_with fail
    go_ret
    exact ⟨rfl, B3.out⟩
end Go.Proofs.Ytopjkpopdffkeaa
