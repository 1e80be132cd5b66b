/- The walk over marllaw13.PackPlans. (Printed by gen_pkplans.py.) -/
import Derived.Test.YtopjkpopdffkeaaPkAwW
import Derived.Test.YtopjkpopdffkeaaPkFewW
import Derived.Test.YtopjkpopdffkeaaPkAllL
import Derived.Test.YtopjkpopdffkeaaPkOwnW
import Derived.Test.YtopjkpopdffkeaaPkRPlW
import Derived.Test.YtopjkpopdffkeaaPkSamW
namespace Go.Proofs.Ytopjkpopdffkeaa
open Go.RowKit
attribute [local go_sem ↓] Go.wp_at_zero Go.wp_at_succ

/-- Rows of numbers stay rows of numbers. -/
def IV (w w' : World) : Prop := ∀ (g : Nat) (cs : Array Value), Blk w g 3 cs → ∃ cs', Blk w' g 3 cs' ∧ ∀ (i : Nat) (x : Int), cs[i]? = some (.int .i64 x) → ∃ y, cs'[i]? = some (Value.int .i64 y)
theorem IV.refl (w : World) : IV w w := fun g cs h => ⟨cs, h, fun i x hx => ⟨x, hx⟩⟩
theorem IV.set {w w' : World} (h : IV w w') {g : Nat} {cs : Array Value} (hB : Blk w' g 3 cs) (i : Nat) (v : Int) : IV w (w'.setCell ⟨g, i, none⟩ (.int .i64 v)) := fun g' cs0 hB0 => by
  obtain ⟨cs', h1, h2⟩ := h g' cs0 hB0
  by_cases e : g' = g
  · subst e
    refine ⟨_, h1.set i (.int .i64 v), fun j x hx => ?_⟩
    obtain ⟨y, hy⟩ := h2 j x hx
    by_cases e2 : i = j
    · subst e2
      have hlt := (Array.getElem?_eq_some_iff.1 hy).1
      exact ⟨v, by rw [Array.getElem?_setIfInBounds_self_of_lt hlt]⟩
    · exact ⟨y, by rw [Array.getElem?_setIfInBounds_ne e2]; exact hy⟩
  · exact ⟨cs', h1.far (p := ⟨g, i, none⟩) e _, h2⟩
/-- A number in a row that may have been written to. -/
theorem iv_cell {base w6S : Nat} {w6 wr : World} {A : Option Addr} {n j : Nat} {l : List Int} (h : IntsAt base base w6 A n l) (hiv : IV w6 wr) (hj : j < n) :
    ∃ b off y cs, A = some ⟨b, off, none⟩ ∧ base ≤ b ∧ (∀ t cs, Blk w6 b t cs → t ∈ [3]) ∧ Blk wr b 3 cs ∧ wr.cell? ⟨b, off + j, none⟩ = some (.int .i64 y) := by
  have hl := IntsAt.len h
  obtain ⟨b, off, hA, ⟨h0, h1, h2⟩, hc⟩ := RwAt.at h (by omega) (by decide)
  obtain ⟨cs, hB⟩ : ∃ cs, Blk w6 b 3 cs := by
    rcases h2 with h2 | h2
    · omega
    · exact h2
  obtain ⟨cs', hB', hv⟩ := hiv b cs hB
  have hx : (intC l)[j]? = some (.int .i64 (l[j]'(by omega))) := by rw [intC, List.getElem?_map, List.getElem?_eq_getElem (by omega)]; rfl
  have h5 := hc j _ hx
  rw [hB.cell] at h5
  obtain ⟨y, hy⟩ := hv _ _ h5
  exact ⟨b, off, y, cs', hA, h0, fun t cs2 hB2 => by simp [(Blk.type hB2 hB).1], hB', by rw [hB'.cell]; exact hy⟩
set_option maxRecDepth 100000 in
set_option maxHeartbeats 8000000 in
theorem plans_all (A A' : Option Addr) (m c m' c' : Nat) (files : List FI) (inos : List Int) (left size : Int) (w : World) (hf : FisAt 0 w.heap.size w A m files) (hi : IntsAt 0 w.heap.size w A' m' inos) (hm63 : m ≤ 9223372036854775807) (hm63' : m' ≤ 9223372036854775807) (hls : ∀ f ∈ files, f.ls.length ≤ 9223372036854775807) :
    Calls Try.prog 3 #[.slice A m c, .slice A' m' c', .agg #[.int .i64 left, .int .i64 size]] w fun e w' => e = .returned (.bool true) ∧ Below w.heap.size w w' := by
  have HF := hide hf
  have HI := hide hi
  have HLS := hide hls
  have HL1 := hide (hf.len)
  have HL2 := hide (IntsAt.len hi)
  clear hf hi hls
  go_enter Try.func3, Try.ntmps3
  go_wp2_with fail
  obtain ⟨wx, hwx⟩ : ∃ W, W = w.alloc (.cells #[.int .i64 left, .int .i64 size] 24) := ⟨_, rfl⟩
  have BX : Hid (Below w.heap.size w wx) := hide (by rw [hwx]; exact (Below.refl _ _).alloc (Nat.le_refl _) _)
  have KX : Hid (Blk wx w.heap.size 24 #[.int .i64 left, .int .i64 size]) := hide (by rw [hwx]; exact Blk.new _ _ _)
  rw [← hwx]
  clear hwx
  refine (awake13 wx).mono ?_
  rintro e w1 ⟨rfl, hb⟩
  have B1 := hide (BX.out.trans (hb.mono BX.out.size))
  have K1 := hide (KX.out.below hb)
  clear hb BX KX
  go_wp2_with fail
  refine (few_any A A' m c m' c' _ _ _ _ files inos w1 (HF.out.below B1.out) (RwAt.below HI.out B1.out) hm63 hm63' HLS.out).mono ?_
  rintro e w2 ⟨rfl, hb⟩
  have B2 := hide (B1.out.trans (hb.mono B1.out.size))
  have K2 := hide (K1.out.below hb)
  clear hb B1 K1
  by_cases hfew : fewP files inos
  · rw [decide_eq_true hfew]
    have HFEW := hide hfew
    have hm300 : m ≤ 300 := by have := hfew.1; rw [HL1.out] at this; exact this
    have hm300' : m' ≤ 300 := by have := hfew.2; rw [HL2.out] at this; omega
    have HLSN := hide (show lsN files ≤ 300 by have := hfew.2; omega)
    have HFL := hide (show ∀ f ∈ files, f.ls.length ≤ 1000000 from fun f hf => by
      obtain ⟨j, hj, e⟩ := List.getElem_of_mem hf
      have := lsN_mem (List.getElem?_eq_getElem hj)
      rw [e] at this
      have := HLSN.out
      omega)
    clear hfew
    go_wp2_with fail
    have CO := own_any 0 0 0 0 0 A A' m c m' c' _ _ _ _ files inos w2 (HF.out.below B2.out) (RwAt.below HI.out B2.out) (by omega) (by omega) HFL.out
    unfold partC at CO
    refine CO.mono ?_
    rintro e w3 ⟨D1, e1, D2, e2, rfl, hF3, hI3, hb⟩
    obtain ⟨wi, hwi⟩ : ∃ W, W = w3.alloc (.cells #[.int .i64 0, .int .i64 0, .int .i64 0, .int .i64 0, .int .i64 0, .slice D1 m e1, .slice D2 m' e2] 28) := ⟨_, rfl⟩
    have hba : Below w3.heap.size w3 wi := by rw [hwi]; exact (Below.refl _ _).alloc (Nat.le_refl _) _
    have FI3 := hide (hF3.below hba)
    have II3 := hide (RwAt.below hI3 hba)
    have KI : Hid (Blk wi w3.heap.size 28 #[.int .i64 0, .int .i64 0, .int .i64 0, .int .i64 0, .int .i64 0, .slice D1 m e1, .slice D2 m' e2]) := hide (by rw [hwi]; exact Blk.new _ _ _)
    have BI := hide (B2.out.trans ((hb.trans (hba.mono hb.size)).mono B2.out.size))
    have KX := hide ((K2.out.below hb).below hba)
    have B2I := hide (hb.trans (hba.mono hb.size))
    obtain ⟨pb, hpb⟩ : ∃ b, b = w3.heap.size := ⟨_, rfl⟩
    rw [← hpb] at KI
    clear hF3 hI3 hb hba CO K2
    go_upto_region 4 with fail
    rw [← hwi, ← hpb]
    clear hwi hpb
    have SQ := hide (show decide (sameQ 0 0 0 0 0 0 0 0 0 0 files files inos inos) = true from decide_eq_true ⟨⟨rfl, rfl, rfl, rfl, rfl⟩, rfl, rfl⟩)
    -- Same(in, what came in), in any later world
    have SAME := hide (fun (W : World) (hb : Below wi.heap.size wi W) => show Calls Try.prog 12 #[.agg #[.int .i64 0, .int .i64 0, .int .i64 0, .int .i64 0, .int .i64 0, .slice D1 m e1, .slice D2 m' e2], .agg #[.int .i64 0, .int .i64 0, .int .i64 0, .int .i64 0, .int .i64 0, .slice A m c, .slice A' m' c']] W fun r W' => r = .returned (.bool true) ∧ Below W.heap.size W W' from by
      have BW := BI.out.trans (hb.mono BI.out.size)
      have h := same_any 0 0 0 0 0 0 0 0 0 0 D1 D2 A A' m e1 m' e2 m c m' c' _ _ _ _ _ _ _ _ files files inos inos W (FI3.out.below hb) (HF.out.below BW) (RwAt.below II3.out hb) (RwAt.below HI.out BW) (by omega) (by omega) (by omega) (by omega) HFL.out HFL.out
      rw [SQ.out] at h
      unfold partC at h
      exact h)
    have KIW := hide (fun (W : World) (hb : Below wi.heap.size wi W) (i : Nat) => show W.cell? ⟨pb, i, none⟩ = (#[.int .i64 0, .int .i64 0, .int .i64 0, .int .i64 0, .int .i64 0, .slice D1 m e1, .slice D2 m' e2] : Array Value)[i]? from (KI.out.below hb).cell i)
    have x0 := KX.out.cell 0
    have x1 := KX.out.cell 1
    have v5 := KIW.out wi (Below.refl _ _) 5
    have v6 := KIW.out wi (Below.refl _ _) 6
    simp only [List.getElem?_toArray, List.getElem?_cons_succ, List.getElem?_cons_zero] at x0 x1 v5 v6
    by_cases hbad : badP left size
    · go_wp2_with fail
      clear x0 x1 v5 v6
      refine (plan_bad D1 D2 m e1 m' e2 left size wi hbad).mono ?_
      rintro e w4 ⟨rfl, hb4⟩
      have B4 := hide hb4
      clear hb4
      have B4W := hide (BI.out.trans (B4.out.mono BI.out.size))
      have y0 := (KX.out.below B4.out).cell 0
      have y1 := (KX.out.below B4.out).cell 1
      simp only [List.getElem?_toArray, List.getElem?_cons_succ, List.getElem?_cons_zero] at y0 y1
      go_wp2_with fail
      clear y0 y1
      refine (rplan_bad A A' m c m' c' left size w4 hbad).mono ?_
      rintro e w5 ⟨rfl, hb5⟩
      have B5 := hide (B4.out.trans (hb5.mono B4.out.size))
      clear hb5
      have k0 := KIW.out w5 B5.out 0
      have k1 := KIW.out w5 B5.out 1
      have k2 := KIW.out w5 B5.out 2
      have k3 := KIW.out w5 B5.out 3
      have k4 := KIW.out w5 B5.out 4
      have k5 := KIW.out w5 B5.out 5
      have k6 := KIW.out w5 B5.out 6
      simp only [List.getElem?_toArray, List.getElem?_cons_succ, List.getElem?_cons_zero] at k0 k1 k2 k3 k4 k5 k6
      go_wp2_with fail
      clear k0 k1 k2 k3 k4 k5 k6
      refine (SAME.out w5 B5.out).mono ?_
      rintro e w6 ⟨rfl, hb6⟩
      have B6 := hide (B5.out.trans (hb6.mono B5.out.size))
      clear hb6
      go_wp2_with fail
      go_loopw [12, 72] (fun _ y wr => y = .int .i64 0 ∧ Below wi.heap.size wi wr) (fun _ _ _ => 0)
      case atStart => exact ⟨rfl, B6.out⟩
      case round =>
        obtain ⟨rfl, hb⟩ := hrel
        have B7 := hide hb
        clear hb
        go_wp2_with fail
        go_loopw [89] (fun y wr => y = .int .i64 0 ∧ Below wi.heap.size wi wr) (fun _ _ => 0)
        case atStart => exact ⟨rfl, B7.out⟩
        case round =>
          obtain ⟨rfl, hb⟩ := hrel
          have B9 := hide hb
          clear hb
          have k0 := KIW.out wr B9.out 0
          have k1 := KIW.out wr B9.out 1
          have k2 := KIW.out wr B9.out 2
          have k3 := KIW.out wr B9.out 3
          have k4 := KIW.out wr B9.out 4
          have k5 := KIW.out wr B9.out 5
          have k6 := KIW.out wr B9.out 6
          simp only [List.getElem?_toArray, List.getElem?_cons_succ, List.getElem?_cons_zero] at k0 k1 k2 k3 k4 k5 k6
          go_wp2_with fail
          clear k0 k1 k2 k3 k4 k5 k6
          refine (SAME.out wr B9.out).mono ?_
          rintro e w9 ⟨rfl, hb9⟩
          have BF := hide (BI.out.trans ((B9.out.trans (hb9.mono B9.out.size)).mono BI.out.size))
          clear hb9
          go_wp2_with fail
          go_ret
          exact ⟨rfl, BF.out⟩
    · have hgood : 8 ≤ size ∧ size ≤ 64 ∧ 0 ≤ left ∧ left ≤ size := by unfold badP at hbad; omega
      obtain ⟨g8, g64, g0, gl⟩ := hgood
      go_wp2_with fail
      clear x0 x1 v5 v6
      have C1 := plan_good D1 D2 m e1 m' e2 _ _ _ _ files inos left size wi FI3.out II3.out (Nat.le_trans (Nat.le_refl _) B2I.out.size) (Nat.le_trans (Nat.le_refl _) B2I.out.size) (by omega) (by omega) (by have := HLSN.out; omega) hbad
      refine C1.mono ?_
      rintro e w4 ⟨hb4, hq4⟩
      have B4 := hide hb4
      have REF := hide (plan_ref (files := files) (inos := inos) (left := left) (size := size) g8 g0 gl)
      clear C1 hb4
      rcases hR : goS (actsA files inos) (startS left size) with _ | sa
      · have hR2 : goR size (refA files inos) ⟨[], left⟩ = none := by
          have := REF.out
          rw [hR, refA_items] at this
          cases h : goR size (refA files inos) ⟨[], left⟩ with
          | none => rfl
          | some _ => rw [h] at this; exact this.elim
        rw [hR] at hq4
        obtain rfl : e = _ := hq4
        have HR2 := hide hR2
        clear hR hR2
        have B4W := hide (BI.out.trans (B4.out.mono BI.out.size))
        have y0 := (KX.out.below B4.out).cell 0
        have y1 := (KX.out.below B4.out).cell 1
        simp only [List.getElem?_toArray, List.getElem?_cons_succ, List.getElem?_cons_zero] at y0 y1
        go_wp2_with fail
        clear y0 y1
        have C2 := rplan_good A A' m c m' c' _ _ _ _ files inos left size w4 (HF.out.below B4W.out) (RwAt.below HI.out B4W.out) hm300 hm300' HLSN.out hbad
        rw [HR2.out] at C2
        refine C2.mono ?_
        rintro e w5 ⟨hb5, hq5⟩
        obtain rfl : e = _ := hq5
        clear C2
        have B5 := hide (B4.out.trans (hb5.mono B4.out.size))
        clear hb5
        have k0 := KIW.out w5 B5.out 0
        have k1 := KIW.out w5 B5.out 1
        have k2 := KIW.out w5 B5.out 2
        have k3 := KIW.out w5 B5.out 3
        have k4 := KIW.out w5 B5.out 4
        have k5 := KIW.out w5 B5.out 5
        have k6 := KIW.out w5 B5.out 6
        simp only [List.getElem?_toArray, List.getElem?_cons_succ, List.getElem?_cons_zero] at k0 k1 k2 k3 k4 k5 k6
        go_wp2_with fail
        clear k0 k1 k2 k3 k4 k5 k6
        refine (SAME.out w5 B5.out).mono ?_
        rintro e w6 ⟨rfl, hb6⟩
        have B6 := hide (B5.out.trans (hb6.mono B5.out.size))
        clear hb6
        go_wp2_with fail
        go_loopw [12, 72] (fun _ y wr => y = .int .i64 0 ∧ Below wi.heap.size wi wr) (fun _ _ _ => 0)
        case atStart => exact ⟨rfl, B6.out⟩
        case round =>
          obtain ⟨rfl, hb⟩ := hrel
          have B7 := hide hb
          clear hb
          go_wp2_with fail
          go_loopw [89] (fun y wr => y = .int .i64 0 ∧ Below wi.heap.size wi wr) (fun _ _ => 0)
          case atStart => exact ⟨rfl, B7.out⟩
          case round =>
            obtain ⟨rfl, hb⟩ := hrel
            have B9 := hide hb
            clear hb
            have k0 := KIW.out wr B9.out 0
            have k1 := KIW.out wr B9.out 1
            have k2 := KIW.out wr B9.out 2
            have k3 := KIW.out wr B9.out 3
            have k4 := KIW.out wr B9.out 4
            have k5 := KIW.out wr B9.out 5
            have k6 := KIW.out wr B9.out 6
            simp only [List.getElem?_toArray, List.getElem?_cons_succ, List.getElem?_cons_zero] at k0 k1 k2 k3 k4 k5 k6
            go_wp2_with fail
            clear k0 k1 k2 k3 k4 k5 k6
            refine (SAME.out wr B9.out).mono ?_
            rintro e w9 ⟨rfl, hb9⟩
            have BF := hide (BI.out.trans ((B9.out.trans (hb9.mono B9.out.size)).mono BI.out.size))
            clear hb9
            go_wp2_with fail
            go_ret
            exact ⟨rfl, BF.out⟩
      · obtain ⟨sr, hR2⟩ : ∃ sr, goR size (refA files inos) ⟨[], left⟩ = some sr := by
          have := REF.out
          rw [hR, refA_items] at this
          cases h : goR size (refA files inos) ⟨[], left⟩ with
          | none => rw [h] at this; exact this.elim
          | some sr => exact ⟨sr, rfl⟩
        have SP : Hid (sa.out.length = sr.out.length ∧ ∀ (j : Nat) (a : Bool × List RI) (p : PcP), sr.out[j]? = some a → sa.out[j]? = some p → PR files a p) := hide (by
          have := REF.out
          rw [hR, refA_items, hR2] at this
          exact this)
        have BD := hide (plan_bd g8 g0 gl hR)
        rw [hR] at hq4
        obtain ⟨PA, da, rfl, hOA⟩ := hq4
        have OA := hide hOA
        have HR2 := hide hR2
        clear hOA hR hR2 REF
        obtain ⟨ps, hps⟩ : ∃ ps, ps = sa.out := ⟨_, rfl⟩
        obtain ⟨L, hL⟩ : ∃ L, L = sa.out.length := ⟨_, rfl⟩
        have HLP := hide (show ps.length = L by rw [hps, hL])
        rw [← hL] at OA BD SP ⊢
        rw [← hps] at OA BD SP
        have hL600 : L ≤ 600 := by have := BD.out.1; have := HFEW.out.2; omega
        clear hps hL
        clear sa
        have y0 := (KX.out.below B4.out).cell 0
        have y1 := (KX.out.below B4.out).cell 1
        simp only [List.getElem?_toArray, List.getElem?_cons_succ, List.getElem?_cons_zero] at y0 y1
        have B4W := hide (BI.out.trans (B4.out.mono BI.out.size))
        go_wp2_with fail
        clear y0 y1
        have C2 := rplan_good A A' m c m' c' _ _ _ _ files inos left size w4 (HF.out.below B4W.out) (RwAt.below HI.out B4W.out) hm300 hm300' HLSN.out hbad
        rw [HR2.out] at C2
        refine C2.mono ?_
        rintro e w5 ⟨hb5, PB, db, rfl, hOB⟩
        have OB := hide hOB
        rw [← SP.out.1] at OB ⊢
        have OA5 := hide (OA.out.below hb5)
        have B5 := hide (B4.out.trans (hb5.mono B4.out.size))
        have B5W := hide (BI.out.trans (B5.out.mono BI.out.size))
        have WS := hide hb5.size
        have SPP := hide SP.out.2
        clear C2 hb5 hOB OA HR2 SP
        obtain ⟨rsr, hrsr⟩ : ∃ x, x = sr.out := ⟨_, rfl⟩
        rw [← hrsr] at OB SPP
        clear hrsr
        clear sr
        have k0 := KIW.out w5 B5.out 0
        have k1 := KIW.out w5 B5.out 1
        have k2 := KIW.out w5 B5.out 2
        have k3 := KIW.out w5 B5.out 3
        have k4 := KIW.out w5 B5.out 4
        have k5 := KIW.out w5 B5.out 5
        have k6 := KIW.out w5 B5.out 6
        simp only [List.getElem?_toArray, List.getElem?_cons_succ, List.getElem?_cons_zero] at k0 k1 k2 k3 k4 k5 k6
        go_wp2_with fail
        clear k0 k1 k2 k3 k4 k5 k6
        refine (SAME.out w5 B5.out).mono ?_
        rintro e w6 ⟨rfl, hb6⟩
        have OA6 := hide (OA5.out.below hb6)
        have OB6 := hide (OB.out.below hb6)
        have B6 := hide (B5.out.trans (hb6.mono B5.out.size))
        have WS6 := hide (Nat.le_trans WS.out hb6.size)
        clear hb6 OA5 OB
        go_wp2_with fail
        go_loopw [12, 72] (fun _ y wr => ∃ i : Nat, i ≤ L ∧ y = .int .i64 (i : Int) ∧ Below w6.heap.size w6 wr) (fun _ y _ => L - (intOf y).toNat)
        case atStart => exact ⟨0, Nat.zero_le _, rfl, Below.refl _ _⟩
        case round =>
          obtain ⟨i, hiL, rfl, hb⟩ := hrel
          have HB := hide hb
          clear hb
          by_cases hlt : i < L
          · obtain ⟨g, p, P1, d1, P2, d2, hA, hg0, ⟨csg, hgb⟩, hp, hf1, hi1, q0, q1, q2⟩ := (OA6.out.below HB.out).at hlt
            obtain ⟨g', a, I1, j1, hB, hg0', ⟨csg', hgb'⟩, ha, hIt, r0, r1, -⟩ := (OB6.out.below HB.out).at hlt
            subst hA hB
            have hPR := SPP.out i a p ha hp
            have B7 := hide (B6.out.trans (HB.out.mono B6.out.size))
            obtain ⟨k1, k2, k3, k4⟩ := BD.out.2 p (List.mem_of_getElem? hp)
            have hblk := hPR.blk
            have hk : a.2.length ≤ 1000 := by unfold blkN at hblk; have := HFEW.out.2; omega
            have PS : ∀ (W : World), Below wr.heap.size wr W → Calls Try.prog 13 #[.agg (pcC p.nw P1 p.fs.length d1 P2 p.is.length d2), .agg #[.bool a.1, .slice I1 a.2.length j1], .slice A m c] W fun e w' => e = .returned (.bool true) ∧ Below W.heap.size W w' := fun W hb =>
              psame_any P1 P2 I1 A d1 d2 a.2.length j1 m c _ _ _ _ _ _ _ _ p a files W (hf1.below hb) (RwAt.below hi1 hb) (RwAt.below hIt hb) (HF.out.below (BI.out.trans ((B7.out.trans (hb.mono B7.out.size)).mono BI.out.size))) hPR hk (by omega) (by have := HFEW.out.2; omega) (by have := HFEW.out.2; omega) (fun f hf => by have := (k4 f hf).2; omega) (by have := HFEW.out.2; omega)
            unfold pcC at PS
            have PS := hide PS
            obtain ⟨n1, hn1⟩ : ∃ z, z = p.fs.length := ⟨_, rfl⟩
            obtain ⟨n2, hn2⟩ : ∃ z, z = p.is.length := ⟨_, rfl⟩
            obtain ⟨n3, hn3⟩ : ∃ z, z = a.2.length := ⟨_, rfl⟩
            obtain ⟨nw, hnw⟩ : ∃ z, z = p.nw := ⟨_, rfl⟩
            obtain ⟨nw', hnw'⟩ : ∃ z, z = a.1 := ⟨_, rfl⟩
            rw [← hn1] at q1
            rw [← hn2] at q2
            rw [← hn3] at r1
            rw [← hnw] at q0
            rw [← hnw'] at r0
            rw [← hn1, ← hn2, ← hn3, ← hnw, ← hnw'] at PS
            have G1 := hide hgb.lt
            have G2 := hide hgb'.lt
            have CC := hide (fun (w' : World) (hb : Below wr.heap.size wr w') => show w'.cell? ⟨g, i * 3, none⟩ = some (.bool nw) ∧ w'.cell? ⟨g, i * 3 + 1, none⟩ = some (.slice P1 n1 d1) ∧ w'.cell? ⟨g, i * 3 + 2, none⟩ = some (.slice P2 n2 d2) ∧ w'.cell? ⟨g', i * 2, none⟩ = some (.bool nw') ∧ w'.cell? ⟨g', i * 2 + 1, none⟩ = some (.slice I1 n3 j1) from
              ⟨(hb.cell (p := ⟨g, i * 3, none⟩) G1.out).trans q0, (hb.cell (p := ⟨g, i * 3 + 1, none⟩) G1.out).trans q1, (hb.cell (p := ⟨g, i * 3 + 2, none⟩) G1.out).trans q2, (hb.cell (p := ⟨g', i * 2, none⟩) G2.out).trans r0, (hb.cell (p := ⟨g', i * 2 + 1, none⟩) G2.out).trans r1⟩)
            clear k1 k2 k3 k4 hblk hk hn1 hn2 hn3 hnw hnw' hp ha hf1 hi1 hIt hgb hgb' hg0 hg0' q0 q1 q2 r0 r1 hPR
            have his : (i : Int) < (L : Int) := by omega
            have hi64 : IntKind.i64.wrap (i : Int) = (i : Int) := by rw [IntKind.wrap_i64]; omega
            go_wp2_with fail
            have s0 := CC.out _ (Below.refl _ _).drew
            refine wp_region_noPanic ?_
            refine wp_region_held_drew (S := (fun w' => w'.cell? ⟨g, i * 3, none⟩ = some (.bool nw) ∧ w'.cell? ⟨g, i * 3 + 1, none⟩ = some (.slice P1 n1 d1) ∧ w'.cell? ⟨g, i * 3 + 2, none⟩ = some (.slice P2 n2 d2) ∧ w'.cell? ⟨g', i * 2, none⟩ = some (.bool nw') ∧ w'.cell? ⟨g', i * 2 + 1, none⟩ = some (.slice I1 n3 j1))) (by kernel_rfl) ?_ (fun hHeld => ?_)
            · ((try dsimp only) <;> (first | trivial | assumption | go_keep))
            clear s0
            have BDr := hide ((Below.refl wr.heap.size wr).drew)
            refine wpAnyH_take (i := 0) (v := ?_) (by simp only [List.getElem?_toArray, List.getElem?_cons_succ, List.getElem?_cons_zero]; rfl) (by kernel_rfl) (by kernel_rfl) (by kernel_rfl) (fun _ _ _ h => h) (Or.inl ⟨by rfl, ?_⟩) (by assumption) ?_
            rotate_left 1
            · (intro w hSw; (try dsimp only at hSw); go_simp; try with_reducible rfl)
            try simp only [Act.put, List.setIfInBounds_toArray, List.set_cons_zero, List.set_cons_succ]
            refine wpAnyH_take (i := 1) (v := ?_) (by simp only [List.getElem?_toArray, List.getElem?_cons_succ, List.getElem?_cons_zero]; rfl) (by kernel_rfl) (by kernel_rfl) (by kernel_rfl) (fun _ _ _ h => h) (Or.inl ⟨by rfl, ?_⟩) (by assumption) ?_
            rotate_left 1
            · (intro w hSw; (try dsimp only at hSw); go_simp; try with_reducible rfl)
            try simp only [Act.put, List.setIfInBounds_toArray, List.set_cons_zero, List.set_cons_succ]
            refine wpAnyH_take (i := 2) (v := ?_) (by simp only [List.getElem?_toArray, List.getElem?_cons_succ, List.getElem?_cons_zero]; rfl) (by kernel_rfl) (by kernel_rfl) (by kernel_rfl) (fun _ _ _ h => h) (Or.inl ⟨by rfl, ?_⟩) (by assumption) ?_
            rotate_left 1
            · (intro w hSw; (try dsimp only at hSw); go_simp; try with_reducible rfl)
            try simp only [Act.put, List.setIfInBounds_toArray, List.set_cons_zero, List.set_cons_succ]
            refine wpAnyH_take (i := 3) (v := ?_) (by simp only [List.getElem?_toArray, List.getElem?_cons_succ, List.getElem?_cons_zero]; rfl) (by kernel_rfl) (by kernel_rfl) (by kernel_rfl) (fun _ _ _ h => h) (Or.inl ⟨by rfl, ?_⟩) (by assumption) ?_
            rotate_left 1
            · (intro w hSw; (try dsimp only at hSw); go_simp; try with_reducible rfl)
            try simp only [Act.put, List.setIfInBounds_toArray, List.set_cons_zero, List.set_cons_succ]
            refine wpAnyH_take (i := 4) (v := ?_) (by simp only [List.getElem?_toArray, List.getElem?_cons_succ, List.getElem?_cons_zero]; rfl) (by kernel_rfl) (by kernel_rfl) (by kernel_rfl) (fun _ _ _ h => h) (Or.inl ⟨by rfl, ?_⟩) (by assumption) ?_
            rotate_left 1
            · (intro w hSw; (try dsimp only at hSw); go_simp; try with_reducible rfl)
            try simp only [Act.put, List.setIfInBounds_toArray, List.set_cons_zero, List.set_cons_succ]
            refine wpAnyH_take (i := 5) (v := ?_) (by simp only [List.getElem?_toArray, List.getElem?_cons_succ, List.getElem?_cons_zero]; rfl) (by kernel_rfl) (by kernel_rfl) (by kernel_rfl) (fun _ _ _ h => h) (Or.inl ⟨by rfl, ?_⟩) (by assumption) ?_
            rotate_left 1
            · (intro w hSw; (try dsimp only at hSw); go_simp; try with_reducible rfl)
            try simp only [Act.put, List.setIfInBounds_toArray, List.set_cons_zero, List.set_cons_succ]
            refine wpAnyH_take (i := 6) (v := ?_) (by simp only [List.getElem?_toArray, List.getElem?_cons_succ, List.getElem?_cons_zero]; rfl) (by kernel_rfl) (by kernel_rfl) (by kernel_rfl) (fun _ _ _ h => h) (Or.inl ⟨by rfl, ?_⟩) (by assumption) ?_
            rotate_left 1
            · (intro w hSw; (try dsimp only at hSw); go_simp; try with_reducible rfl)
            try simp only [Act.put, List.setIfInBounds_toArray, List.set_cons_zero, List.set_cons_succ]
            refine wpAnyH_take (i := 7) (v := ?_) (by simp only [List.getElem?_toArray, List.getElem?_cons_succ, List.getElem?_cons_zero]; rfl) (by kernel_rfl) (by kernel_rfl) (by kernel_rfl) (fun _ _ _ h => h) (Or.inl ⟨by rfl, ?_⟩) (by assumption) ?_
            rotate_left 1
            · (intro w hSw; (try dsimp only at hSw); go_simp; try with_reducible rfl)
            try simp only [Act.put, List.setIfInBounds_toArray, List.set_cons_zero, List.set_cons_succ]
            refine wpAnyH_take (i := 8) (v := ?_) (by simp only [List.getElem?_toArray, List.getElem?_cons_succ, List.getElem?_cons_zero]; rfl) (by kernel_rfl) (by kernel_rfl) (by kernel_rfl) (fun _ _ _ h => h) (Or.inl ⟨by rfl, ?_⟩) (by assumption) ?_
            rotate_left 1
            · (intro w hSw; (try dsimp only at hSw); go_simp; try with_reducible rfl)
            try simp only [Act.put, List.setIfInBounds_toArray, List.set_cons_zero, List.set_cons_succ]
            refine wpAnyH_ready (rs := [9]) (by kernel_rfl) (by simp) ?_
            refine AllReadyH.cons (by simp only [List.getElem?_toArray, List.getElem?_cons_succ, List.getElem?_cons_zero]; rfl) (fun K hK => ?_) ?_
            rotate_left 1
            · exact AllReadyH.nil
            go_simp
            refine (PS.out _ BDr.out).mono ?_; rintro e w7 ⟨rfl, hb⟩; have B8 := hide (BDr.out.trans (hb.mono BDr.out.size)); clear hb; go_wp2_with fail
            refine hK.out _ _ ?_ (fun hHeld2 => ?_)
            · ((try dsimp only) <;> (exact CC.out _ B8.out))
            clear hHeld
            have hHeld := hHeld2
            clear hHeld2 hK K
            try simp only [Act.put, List.setIfInBounds_toArray, List.set_cons_zero, List.set_cons_succ]
            refine wpAnyH_take (i := 10) (v := ?_) (by simp only [List.getElem?_toArray, List.getElem?_cons_succ, List.getElem?_cons_zero]; rfl) (by kernel_rfl) (by kernel_rfl) (by kernel_rfl) (fun _ _ _ h => h) (Or.inl ⟨by rfl, ?_⟩) (by assumption) ?_
            rotate_left 1
            · (intro w hSw; (try dsimp only at hSw); go_simp; try with_reducible rfl)
            try simp only [Act.put, List.setIfInBounds_toArray, List.set_cons_zero, List.set_cons_succ]
            refine wpAnyH_done (by kernel_rfl) ?_ _
            refine NoPanic.normal ?_
            clear hHeld
            go_wp2_with fail
            go_roundw
            case rel => exact ⟨i + 1, by omega, by go_num, HB.out.trans (B8.out.mono HB.out.size)⟩
            case measure => simp [intOf]; omega
          · obtain ⟨bs, hbs⟩ : ∃ b, b = wi.heap.size := ⟨_, rfl⟩
            have BZ0 := hide (B6.out.trans (HB.out.mono B6.out.size))
            have OZ0 := hide (OA6.out.below HB.out)
            go_wp2_with fail
            obtain ⟨wz, hwz⟩ : ∃ W, W = wr := ⟨_, rfl⟩
            have BZ : Hid (Below wi.heap.size wi wz) := hide (by rw [hwz]; exact BZ0.out)
            have OZ : Hid (OutR bs wz PA L da ps) := hide (by rw [hwz, hbs]; exact OZ0.out)
            rw [← hwz]
            have HBS := hide hbs
            clear hwz hbs BZ0 OZ0 HB OA6 OB6
            go_loopw [89] (fun y wr => ∃ i : Nat, i ≤ L ∧ y = .int .i64 (i : Int) ∧ Kt [3] bs wz wr ∧ IV wz wr) (fun y _ => L - (intOf y).toNat)
            case atStart => exact ⟨0, Nat.zero_le _, rfl, Kt.refl _ _ _, IV.refl _⟩
            case round =>
              obtain ⟨i, hiL, rfl, hK, hV⟩ := hrel
              have HK := hide hK
              have HV := hide hV
              clear hK hV
              by_cases hlt : i < L
              · obtain ⟨g, p, P1, d1, P2, d2, hA, hg0, ⟨csg, hgb⟩, hp, hf1, hi1, q0, q1, q2⟩ := OZ.out.at hlt
                subst hA
                obtain ⟨k1, k2, k3, k4⟩ := BD.out.2 p (List.mem_of_getElem? hp)
                obtain ⟨n1, hn1⟩ : ∃ z, z = p.fs.length := ⟨_, rfl⟩
                obtain ⟨n2, hn2⟩ : ∃ z, z = p.is.length := ⟨_, rfl⟩
                rw [← hn1] at q1 hf1 k1
                rw [← hn2] at q2 hi1 k2
                have hn1b : n1 ≤ 600 := by have := HFEW.out.2; omega
                have hn2b : n2 ≤ 600 := by have := HFEW.out.2; omega
                have K4 := hide k4
                have F1 := hide hf1
                have I1 := hide hi1
                have PC := hide (fun (W : World) (hk : Kt [3] bs wz W) => show W.cell? ⟨g, i * 3 + 1, none⟩ = some (.slice P1 n1 d1) ∧ W.cell? ⟨g, i * 3 + 2, none⟩ = some (.slice P2 n2 d2) from
                  ⟨((hgb.kt hk (by decide)).cell _).trans ((hgb.cell _).symm.trans q1), ((hgb.kt hk (by decide)).cell _).trans ((hgb.cell _).symm.trans q2)⟩)
                clear hp hf1 hi1 hgb hg0 hn1 hn2 k1 k2 k3 k4 q0 q1 q2
                have his : (i : Int) < (L : Int) := by omega
                have hi64 : IntKind.i64.wrap (i : Int) = (i : Int) := by rw [IntKind.wrap_i64]; omega
                obtain ⟨r1, r2⟩ := PC.out wr HK.out
                go_wp2_with fail
                clear r1 r2
                go_loopw [98] (fun y wr => ∃ k : Nat, k ≤ n1 ∧ y = .int .i64 (k : Int) ∧ Kt [3] bs wz wr ∧ IV wz wr) (fun y _ => n1 - (intOf y).toNat)
                case atStart => exact ⟨0, Nat.zero_le _, rfl, HK.out, HV.out⟩
                case round =>
                  obtain ⟨k, hkn, rfl, hK, hV⟩ := hrel
                  have HK3 := hide hK
                  have HV3 := hide hV
                  clear hK hV
                  by_cases hlt2 : k < n1
                  · obtain ⟨b5, off5, f, A5, c5, hA5, hFr, hfi, hI5, -, -, z2⟩ := F1.out.at hlt2
                    subst hA5
                    obtain ⟨cs5, hB5⟩ : ∃ cs, Blk wz b5 45 cs := by
                      rcases hFr.2.2 with h | h
                      · have := hFr.1; omega
                      · exact h
                    have hfl := (K4.out f (List.mem_of_getElem? hfi)).2
                    obtain ⟨m5, hm5⟩ : ∃ z, z = f.ls.length := ⟨_, rfl⟩
                    rw [← hm5] at z2 hI5 hfl
                    have I5 := hide hI5
                    have FC := hide (fun (W : World) (hk : Kt [3] bs wz W) => show W.cell? ⟨b5, off5 + k * 3 + 2, none⟩ = some (.slice A5 m5 c5) from ((hB5.kt hk (by decide)).cell _).trans ((hB5.cell _).symm.trans z2))
                    clear hFr hfi hI5 hB5 hm5 z2
                    have hks : (k : Int) < (n1 : Int) := by omega
                    have hk64 : IntKind.i64.wrap (k : Int) = (k : Int) := by rw [IntKind.wrap_i64]; omega
                    obtain ⟨r1, r2⟩ := PC.out wr HK3.out
                    have z2 := FC.out wr HK3.out
                    go_wp2_with fail
                    clear r1 r2 z2
                    go_loopw [111] (fun y wr => ∃ j : Nat, j ≤ m5 ∧ y = .int .i64 (j : Int) ∧ Kt [3] bs wz wr ∧ IV wz wr) (fun y _ => m5 - (intOf y).toNat)
                    case atStart => exact ⟨0, Nat.zero_le _, rfl, HK3.out, HV3.out⟩
                    case round =>
                      obtain ⟨j, hjm, rfl, hK, hV⟩ := hrel
                      have HK4 := hide hK
                      have HV4 := hide hV
                      clear hK hV
                      by_cases hlt3 : j < m5
                      · obtain ⟨b6, off6, y, cs6, hA6, hb6, hty, hB6, z6⟩ := iv_cell (w6S := 0) I5.out HV4.out hlt3
                        subst hA6
                        have f6 := hB6.frozen (off6 + j)
                        have KS := hide (fun (u : Value) => HK4.out.set (p := ⟨b6, off6 + j, none⟩) (.inl ⟨hb6, hty⟩) u)
                        have VS := hide (fun (u : Int) => HV4.out.set hB6 (off6 + j) u)
                        have hjs : (j : Int) < (m5 : Int) := by omega
                        have hj64 : IntKind.i64.wrap (j : Int) = (j : Int) := by rw [IntKind.wrap_i64]; omega
                        obtain ⟨r1, r2⟩ := PC.out wr HK4.out
                        have z2 := FC.out wr HK4.out
                        clear hb6 hty hB6
                        go_wp2_with fail
                        go_roundw
                        case rel => exact ⟨j + 1, by omega, by go_num, KS.out _, VS.out _⟩
                        case measure => simp [intOf]; omega
                      · go_wp2_with fail
                        go_roundw
                        case rel => exact ⟨k + 1, by omega, by go_num, HK4.out, HV4.out⟩
                        case measure => simp [intOf]; omega
                  · obtain ⟨r1, r2⟩ := PC.out wr HK3.out
                    go_wp2_with fail
                    clear r1 r2
                    go_loopw [136] (fun y wr => ∃ k : Nat, k ≤ n2 ∧ y = .int .i64 (k : Int) ∧ Kt [3] bs wz wr ∧ IV wz wr) (fun y _ => n2 - (intOf y).toNat)
                    case atStart => exact ⟨0, Nat.zero_le _, rfl, HK3.out, HV3.out⟩
                    case round =>
                      obtain ⟨k5, hkn5, rfl, hK, hV⟩ := hrel
                      have HK5 := hide hK
                      have HV5 := hide hV
                      clear hK hV
                      by_cases hlt5 : k5 < n2
                      · obtain ⟨b6, off6, y, cs6, hA6, hb6, hty, hB6, z6⟩ := iv_cell (w6S := 0) I1.out HV5.out hlt5
                        subst hA6
                        have f6 := hB6.frozen (off6 + k5)
                        have KS := hide (fun (u : Value) => HK5.out.set (p := ⟨b6, off6 + k5, none⟩) (.inl ⟨hb6, hty⟩) u)
                        have VS := hide (fun (u : Int) => HV5.out.set hB6 (off6 + k5) u)
                        have hks : (k5 : Int) < (n2 : Int) := by omega
                        have hk64 : IntKind.i64.wrap (k5 : Int) = (k5 : Int) := by rw [IntKind.wrap_i64]; omega
                        obtain ⟨r1, r2⟩ := PC.out wr HK5.out
                        clear hb6 hty hB6
                        go_wp2_with fail
                        go_roundw
                        case rel => exact ⟨k5 + 1, by omega, by go_num, KS.out _, VS.out _⟩
                        case measure => simp [intOf]; omega
                      · go_wp2_with fail
                        go_roundw
                        case rel => exact ⟨i + 1, by omega, by go_num, HK5.out, HV5.out⟩
                        case measure => simp [intOf]; omega
              · have B9 := hide (BZ.out.trans (Below.mono (HK.out.below (by rw [HBS.out]; exact BZ.out.size)) (by rw [HBS.out]; exact Nat.le_refl _)))
                have k0 := KIW.out wr B9.out 0
                have k1 := KIW.out wr B9.out 1
                have k2 := KIW.out wr B9.out 2
                have k3 := KIW.out wr B9.out 3
                have k4 := KIW.out wr B9.out 4
                have k5 := KIW.out wr B9.out 5
                have k6 := KIW.out wr B9.out 6
                simp only [List.getElem?_toArray, List.getElem?_cons_succ, List.getElem?_cons_zero] at k0 k1 k2 k3 k4 k5 k6
                go_wp2_with fail
                clear k0 k1 k2 k3 k4 k5 k6
                refine (SAME.out wr B9.out).mono ?_
                rintro e w9 ⟨rfl, hb9⟩
                have BF := hide (BI.out.trans ((B9.out.trans (hb9.mono B9.out.size)).mono BI.out.size))
                clear hb9
                go_wp2_with fail
                go_ret
                exact ⟨rfl, BF.out⟩
  · rw [decide_eq_false hfew]
    go_wp2_with fail
    refine (awake13 w2).mono ?_
    rintro e w3 ⟨rfl, hb⟩
    have B3 := hide (B2.out.trans (hb.mono B2.out.size))
    clear hb
    go_wp2_with fail
    go_ret
    exact ⟨rfl, B3.out⟩
end Go.Proofs.Ytopjkpopdffkeaa
