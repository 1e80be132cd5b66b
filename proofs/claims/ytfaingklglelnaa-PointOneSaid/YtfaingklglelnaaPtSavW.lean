/- The walks over point.Save, Wipe. -/
import Derived.Test.YtfaingklglelnaaPtCntW
namespace Go.Proofs.Ytfaingklglelnaa
open Go.RowKit
attribute [local go_sem ↓] Go.wp_at_zero Go.wp_at_succ

/-- A write whose bytes lie at the head of a block that may be longer. -/
theorem ld_write3 {w0 w : World} {d : Nat} {D : Dsk} (h : LD w0 w d D) (i : Nat) (g c : Nat) (t : TypeId) (b : List UInt8) (cs : Array Value) (hi : i < D.sure.length) (hl : D.left ≠ 0) (hs : D.steps < 1000000) (hq : D.queue.length < 1000000) (hb : b.length = 64) (hc : 64 ≤ c) (hg : Blk w g t cs) (hcs : ∀ (j : Nat) (u : Value), (u8s b)[j]? = some u → cs[j]? = some u) (hgd : g ≠ d) :
    Calls Try.prog 31 #[.pointer (some ⟨d, 0, none⟩), .int .i64 (i : Int), .slice (some ⟨g, 0, none⟩) 64 c] w fun e w' => e = .returned (.int .i64 0) ∧ LD w0 w' d (D.wrote i b) ∧
      ∃ gs, Kp gs w w' ∧ ∀ k, Out w0 w d D k → k ∉ gs ∧ Out w0 w' d (D.wrote i b) k := by
  obtain ⟨s, v, hD⟩ := h.ex
  refine (write_ok w _ d s v D i ⟨g, 0, none⟩ c b hD hi hl hs hq hb hc (fun w' hk j u hu => by
    rw [Addr.add_mid, Nat.zero_add, (hg.kp hk (by simpa using hgd)).cell]
    exact hcs j u hu)).mono ?_
  rintro e w' ⟨rfl, v', hD', hk, hnew⟩
  refine ⟨rfl, ⟨⟨s, v', hD'⟩, ?_⟩, d :: v.ownBlock.toList, hk (d :: v.ownBlock.toList) (by simp) (fun g hg => by simp [hg]), fun k hn => ?_⟩
  · refine Below.kp2 h.bel (hk (d :: v.ownBlock.toList) (by simp) (fun g hg => by simp [hg])) h.bel.size (fun g hg => ?_)
    rcases List.mem_cons.1 hg with rfl | hg
    · exact hD.db
    · exact (dsk_own hD (by simpa using hg)).1
  · obtain ⟨hkl, s2, v2, hD2, n1, n2, n3⟩ := hn
    obtain ⟨rfl, rfl⟩ := dsk_same hD hD2
    have hK := hk (d :: v.ownBlock.toList) (by simp) (fun g hg => by simp [hg])
    refine ⟨?_, Nat.lt_of_lt_of_le hkl hK.size, s, v', hD', n1, n2, ?_⟩
    · intro hm
      rcases List.mem_cons.1 hm with rfl | hm
      · exact n1 rfl
      · exact n3 (by simpa using hm)
    · intro e
      rcases hnew k e with h | h
      · exact n3 h
      · omega
/-- Of a row of the call's own that holds 64 bytes: its block. -/
theorem own64 {w : World} {base n k : Nat} {A : Option Addr} {l : List UInt8} (h : w.ownsRow base 5 1 (.slice A n k) n (u8s l)) (hn : 0 < n) (hl : l.length = n) : ∃ g cs, A = some ⟨g, 0, none⟩ ∧ base ≤ g ∧ g < w.heap.size ∧ n ≤ k ∧ Blk w g 5 cs ∧ ∀ (j : Nat) (u : Value), (u8s l)[j]? = some u → cs[j]? = some u := by
  rcases h.2 with ⟨-, h0⟩ | ⟨g, cap, cur, hv, hb, hB, hc, -, -, hx⟩
  · omega
  · simp only [Value.slice.injEq] at hv
    obtain ⟨rfl, -, rfl⟩ := hv
    refine ⟨g, cur, rfl, hb, (Array.getElem?_eq_some_iff.1 hB).1, hc, hB, fun j u hj => ?_⟩
    rw [← hx, List.getElem?_take] at hj
    split at hj
    · simpa using hj
    · cases hj

/-- Steps of a law's disk: it reads D', and no block that is none of its own has changed. -/
structure Stp (w0 w w' : World) (d : Nat) (D D' : Dsk) : Prop where
  ld : LD w0 w' d D'
  kp : ∃ gs, Kp gs w w' ∧ ∀ k, Out w0 w d D k → k ∉ gs ∧ Out w0 w' d D' k
section
variable {w0 w w1 w2 : World} {d : Nat} {D D1 D2 : Dsk}
theorem Stp.trans (h : Stp w0 w w1 d D D1) (k : Stp w0 w1 w2 d D1 D2) : Stp w0 w w2 d D D2 := by
  obtain ⟨gs, h1, h2⟩ := h.kp
  obtain ⟨gs', k1, k2⟩ := k.kp
  refine ⟨k.ld, gs ++ gs', (h1.more (fun g hg => List.mem_append_left _ hg)).trans (k1.more (fun g hg => List.mem_append_right _ hg)), fun b hb => ?_⟩
  obtain ⟨a1, a2⟩ := h2 b hb
  obtain ⟨b1, b2⟩ := k2 b a2
  exact ⟨by simp [a1, b1], b2⟩
theorem Stp.of_below (h : LD w0 w d D) (hb : Below w.heap.size w w1) : Stp w0 w w1 d D D := ⟨h.below hb, [], Kp.of_below hb, fun k hk => ⟨by simp, hk.below hb⟩⟩
theorem Stp.refl (h : LD w0 w d D) : Stp w0 w w d D D := Stp.of_below h (Below.refl _ _)
theorem Stp.below (h : Stp w0 w w1 d D D1) (hb : Below w1.heap.size w1 w2) : Stp w0 w w2 d D D1 := h.trans (Stp.of_below h.ld hb)
theorem Stp.blk (h : Stp w0 w w1 d D D1) {g : Nat} {t : TypeId} {cs : Array Value} (hB : Blk w g t cs) (ho : Out w0 w d D g) : Blk w1 g t cs := by
  obtain ⟨gs, h1, h2⟩ := h.kp
  exact hB.kp h1 (h2 g ho).1
theorem Stp.out (h : Stp w0 w w1 d D D1) {g : Nat} (ho : Out w0 w d D g) : Out w0 w1 d D1 g := by
  obtain ⟨gs, h1, h2⟩ := h.kp
  exact (h2 g ho).2
theorem Stp.size (h : Stp w0 w w1 d D D1) : w.heap.size ≤ w1.heap.size := by
  obtain ⟨gs, h1, h2⟩ := h.kp
  exact h1.size
end

/-- What Save answers, and leaves of the disk. -/
def saveP (D : Dsk) (p : Pt) : Int × Dsk :=
  if D.sure.length < 3 then (22, D)
  else if 0 < (countsP D).1 ∧ p.newer (countsP D).2 = false then (103, D)
  else if D.left = 0 then (102, D)
  else
    let D1 := D.wrote (if (countsP D).1 = 1 then 2 else 1) p.bytes
    if D1.left = 0 then (102, D1) else (0, D1.barred)

theorem saveP_cases (D : Dsk) (p : Pt) : (saveP D p).2 = D ∨ (∃ i, i < D.sure.length ∧ (saveP D p).2 = D.wrote i p.bytes) ∨ ∃ i, i < D.sure.length ∧ (saveP D p).2 = (D.wrote i p.bytes).barred := by
  unfold saveP
  generalize hi : (if (countsP D).1 = 1 then 2 else 1) = i
  have hi3 : i < 3 := by rw [← hi]; split <;> omega
  by_cases h1 : D.sure.length < 3
  · rw [if_pos h1]; exact .inl rfl
  · rw [if_neg h1]
    by_cases h2 : 0 < (countsP D).1 ∧ p.newer (countsP D).2 = false
    · rw [if_pos h2]; exact .inl rfl
    · rw [if_neg h2]
      by_cases h3 : D.left = 0
      · rw [if_pos h3]; exact .inl rfl
      · rw [if_neg h3]
        dsimp only
        by_cases h4 : (D.wrote i p.bytes).left = 0
        · rw [if_pos h4]; exact .inr (.inl ⟨i, by omega, rfl⟩)
        · rw [if_neg h4]; exact .inr (.inr ⟨i, by omega, rfl⟩)
theorem saveP_steps (D : Dsk) (p : Pt) : (saveP D p).2.steps ≤ D.steps + 2 ∧ (saveP D p).2.queue.length ≤ D.queue.length + 1 := by
  rcases saveP_cases D p with h | ⟨i, -, h⟩ | ⟨i, -, h⟩ <;> rw [h]
  · omega
  · exact ⟨by show D.steps + 1 ≤ _; omega, by show (D.queue ++ [_]).length ≤ _; rw [List.length_append, List.length_singleton]; omega⟩
  · exact ⟨by show D.steps + 1 + 1 ≤ _; omega, by show ([] : List (Nat × List UInt8)).length ≤ _; rw [List.length_nil]; omega⟩

theorem save_no (w0 w : World) (d : Nat) (D : Dsk) (h : LD w0 w d D) (e c n f : Int) (hp : ¬ PtP e c n f) :
    Calls Try.prog 20 #[.pointer (some ⟨d, 0, none⟩), ptV e c n f] w fun r w' => r = .returned (.int .i64 22) ∧ Stp w0 w w' d D D := by
  have H := hide h
  have HP := hide hp
  clear h hp
  go_enter Try.func20, Try.ntmps20
  go_wp2_with fail
  have B1 := hide ((Below.refl w.heap.size w).alloc (Nat.le_refl _) (.cells (ptC e c n f) 23))
  generalize w.alloc (.cells (ptC e c n f) 23) = w1 at *
  refine (enc_no e c n f w1 HP.out).mono ?_
  rintro r w2 ⟨rfl, hb⟩
  replace B1 := hide (B1.out.trans (hb.mono B1.out.size))
  clear hb
  go_wp2_with fail
  go_ret
  exact ⟨rfl, Stp.of_below H.out B1.out⟩

set_option maxHeartbeats 2000000 in
theorem save_yes (w0 w : World) (d : Nat) (D : Dsk) (h : LD w0 w d D) (p : Pt) (hp : p.P) (hs : D.steps < 900000) (hq : D.queue.length < 900000) :
    Calls Try.prog 20 #[.pointer (some ⟨d, 0, none⟩), p.val] w fun r w' => r = .returned (.int .i64 (saveP D p).1) ∧ Stp w0 w w' d D (saveP D p).2 := by
  have H := hide h
  have HP := hide hp
  have HS := hide hs
  have HQ := hide hq
  have HNN := h.ok.n
  obtain ⟨e, c, n, f⟩ := p
  obtain ⟨S, hS⟩ : ∃ S, S = saveP D ⟨e, c, n, f⟩ := ⟨_, rfl⟩
  have HSV := hide hS
  rw [← hS]
  clear h hp hS hs hq
  go_enter Try.func20, Try.ntmps20
  go_wp2_with fail
  have C3 : Hid (Blk (w.alloc (.cells (ptC e c n f) 23)) w.heap.size 23 (ptC e c n f)) := hide (Blk.new w 23 (ptC e c n f))
  have B1 := hide ((Below.refl w.heap.size w).alloc (Nat.le_refl _) (.cells (ptC e c n f) 23))
  generalize w.alloc (.cells (ptC e c n f) 23) = w1 at *
  refine (enc_yes e c n f w1 HP.out).mono ?_
  rintro r w2 ⟨A, k, rfl, hown, hb⟩
  obtain ⟨ge, cs, rfl, hgb, hgl, hk, hB, hcs⟩ := own64 hown (by decide) (ptBytes_length _ _ _ _)
  have KB := hide hB
  have KC := hide hcs
  have OE := hide ((H.out.below B1.out).out hb hgb hgl)
  replace C3 := hide (C3.out.below hb)
  replace B1 := hide (B1.out.trans (hb.mono B1.out.size))
  clear hb hown hgb hgl hB hcs
  go_wp2_with fail
  refine (ld_size (H.out.below B1.out)).mono ?_
  rintro r w3 ⟨rfl, rfl⟩
  by_cases h3 : D.sure.length < 3
  · have HR : Hid (S = (22, D)) := hide (by rw [HSV.out]; exact if_pos h3)
    have h3d : decide ((D.sure.length : Int) < 3) = true := decide_eq_true (by omega)
    clear h3
    go_wp2_with fail
    go_ret
    exact ⟨by rw [HR.out]; rfl, by rw [HR.out]; exact Stp.of_below H.out B1.out⟩
  · have HSV2 := hide (HSV.out.trans (if_neg h3))
    have h3d : decide ((D.sure.length : Int) < 3) = false := decide_eq_false (by omega)
    have HNS := hide h3
    clear h3 HSV
    go_wp2_with fail
    refine (counts_any w0 w2 d D (H.out.below B1.out)).mono ?_
    rintro r w4 ⟨rfl, hb⟩
    obtain ⟨st, hst⟩ : ∃ st, st = countsP D := ⟨_, rfl⟩
    rw [← hst] at HSV2 ⊢
    clear hst
    obtain ⟨a, be, bc, bn, bf⟩ := st
    replace OE := hide ((OE.out.below hb).below ((Below.refl _ w4).alloc (Nat.le_refl _) (.cells (ptC be bc bn bf) 23)))
    replace KB := hide ((KB.out.below hb).alloc (.cells (ptC be bc bn bf) 23))
    replace C3 := hide ((C3.out.below hb).alloc (.cells (ptC be bc bn bf) 23))
    have C5 := hide (Blk.new w4 23 (ptC be bc bn bf))
    replace B1 := hide ((B1.out.trans (hb.mono B1.out.size)).alloc (Nat.le_trans B1.out.size hb.size) (.cells (ptC be bc bn bf) 23))
    clear hb
    obtain ⟨c0, c1, c2, c3⟩ := ptb4 C3.out
    obtain ⟨e0, e1, e2, e3⟩ := ptb4 C5.out
    have NEWP := hide (show Pt.newer ⟨e, c, n, f⟩ ⟨be, bc, bn, bf⟩ = newP e c be bc from rfl)
    simp only at HSV2
    by_cases ha : a = 0
    · subst ha
      have HSV3 : Hid (S = if D.left = 0 then (102, D) else if (D.wrote 1 (ptBytes e c n f)).left = 0 then (102, D.wrote 1 (ptBytes e c n f)) else (0, (D.wrote 1 (ptBytes e c n f)).barred)) := hide (HSV2.out.trans (if_neg (by rintro ⟨h, -⟩; exact absurd h (by decide))))
      clear HSV2
      go_wp2_with fail
      by_cases hl : D.left = 0
      · have HR : Hid (S = (102, D)) := hide (HSV3.out.trans (if_pos hl))
        refine (ld_write_dead (H.out.below B1.out) 1 (some ⟨ge, 0, none⟩) k (by have := HNS.out; omega) hl).mono ?_
        rintro r w5 ⟨rfl, rfl⟩
        clear hl
        go_wp2_with fail
        go_ret
        exact ⟨by rw [HR.out]; rfl, by rw [HR.out]; exact Stp.of_below H.out B1.out⟩
      · have HSV4 := hide (HSV3.out.trans (if_neg hl))
        refine (ld_write3 (H.out.below B1.out) 1 ge k _ (ptBytes e c n f) cs (by have := HNS.out; omega) hl (by have := HS.out; omega) (by have := HQ.out; omega) (ptBytes_length _ _ _ _) hk KB.out KC.out (by obtain ⟨_, s, v, _, n1, _⟩ := OE.out; exact n1)).mono ?_
        rintro r w5 ⟨rfl, hld, hkp⟩
        have ST := hide ((Stp.of_below H.out B1.out).trans ⟨hld, hkp⟩)
        clear hld hkp hl
        go_wp2_with fail
        by_cases hl2 : (D.wrote 1 (ptBytes e c n f)).left = 0
        · have HR : Hid (S = (102, D.wrote 1 (ptBytes e c n f))) := hide (HSV4.out.trans (if_pos hl2))
          refine (ld_barrier_dead ST.out.ld hl2).mono ?_
          rintro r w6 ⟨rfl, rfl⟩
          clear hl2
          go_wp2_with fail
          go_ret
          exact ⟨by rw [HR.out]; rfl, by rw [HR.out]; exact ST.out⟩
        · have HR : Hid (S = (0, (D.wrote 1 (ptBytes e c n f)).barred)) := hide (HSV4.out.trans (if_neg hl2))
          refine (ld_barrier ST.out.ld hl2 (by show D.steps + 1 < 1000000; have := HS.out; omega)).mono ?_
          rintro r w6 ⟨rfl, hld, hkp⟩
          have ST2 := hide (ST.out.trans ⟨hld, hkp⟩)
          clear hld hkp hl2 ST
          go_wp2_with fail
          go_ret
          exact ⟨by rw [HR.out]; rfl, by rw [HR.out]; exact ST2.out⟩
    · have had : decide (0 < (a : Int)) = true := decide_eq_true (by omega)
      go_wp2_with fail
      refine (newer_any e c n f be bc bn bf _).mono ?_
      rintro r w5 ⟨rfl, hb⟩
      replace OE := hide (OE.out.below hb)
      replace KB := hide (KB.out.below hb)
      replace B1 := hide (B1.out.trans (hb.mono B1.out.size))
      clear c0 c1 c2 c3 e0 e1 e2 e3 C3 C5 hb
      generalize w4.heap.size = g8 at *
      by_cases hn : newP e c be bc = true
      · replace HSV2 := hide (HSV2.out.trans (if_neg (by rintro ⟨-, h⟩; rw [NEWP.out, hn] at h; cases h)))
        rw [hn]
        clear hn
        by_cases h1 : a = 1
        · have h1d : ((a : Int) == 1) = true := by rw [beq_iff_eq]; omega
          have HSV3 : Hid (S = if D.left = 0 then (102, D) else if (D.wrote 2 (ptBytes e c n f)).left = 0 then (102, D.wrote 2 (ptBytes e c n f)) else (0, (D.wrote 2 (ptBytes e c n f)).barred)) := hide (by have h := HSV2.out; rw [if_pos h1] at h; exact h)
          clear HSV2 h1 ha
          go_wp2_with fail
          by_cases hl : D.left = 0
          · have HR : Hid (S = (102, D)) := hide (HSV3.out.trans (if_pos hl))
            refine (ld_write_dead (H.out.below B1.out) 2 (some ⟨ge, 0, none⟩) k (by have := HNS.out; omega) hl).mono ?_
            rintro r w5 ⟨rfl, rfl⟩
            clear hl
            go_wp2_with fail
            go_ret
            exact ⟨by rw [HR.out]; rfl, by rw [HR.out]; exact Stp.of_below H.out B1.out⟩
          · have HSV4 := hide (HSV3.out.trans (if_neg hl))
            refine (ld_write3 (H.out.below B1.out) 2 ge k _ (ptBytes e c n f) cs (by have := HNS.out; omega) hl (by have := HS.out; omega) (by have := HQ.out; omega) (ptBytes_length _ _ _ _) hk KB.out KC.out (by obtain ⟨_, s, v, _, n1, _⟩ := OE.out; exact n1)).mono ?_
            rintro r w5 ⟨rfl, hld, hkp⟩
            have ST := hide ((Stp.of_below H.out B1.out).trans ⟨hld, hkp⟩)
            clear hld hkp hl
            go_wp2_with fail
            by_cases hl2 : (D.wrote 2 (ptBytes e c n f)).left = 0
            · have HR : Hid (S = (102, D.wrote 2 (ptBytes e c n f))) := hide (HSV4.out.trans (if_pos hl2))
              refine (ld_barrier_dead ST.out.ld hl2).mono ?_
              rintro r w6 ⟨rfl, rfl⟩
              clear hl2
              go_wp2_with fail
              go_ret
              exact ⟨by rw [HR.out]; rfl, by rw [HR.out]; exact ST.out⟩
            · have HR : Hid (S = (0, (D.wrote 2 (ptBytes e c n f)).barred)) := hide (HSV4.out.trans (if_neg hl2))
              refine (ld_barrier ST.out.ld hl2 (by show D.steps + 1 < 1000000; have := HS.out; omega)).mono ?_
              rintro r w6 ⟨rfl, hld, hkp⟩
              have ST2 := hide (ST.out.trans ⟨hld, hkp⟩)
              clear hld hkp hl2 ST
              go_wp2_with fail
              go_ret
              exact ⟨by rw [HR.out]; rfl, by rw [HR.out]; exact ST2.out⟩
        · have h1d : ((a : Int) == 1) = false := by rw [beq_eq_false_iff_ne]; omega
          have HSV3 : Hid (S = if D.left = 0 then (102, D) else if (D.wrote 1 (ptBytes e c n f)).left = 0 then (102, D.wrote 1 (ptBytes e c n f)) else (0, (D.wrote 1 (ptBytes e c n f)).barred)) := hide (by have h := HSV2.out; rw [if_neg h1] at h; exact h)
          clear HSV2 h1 ha
          go_wp2_with fail
          by_cases hl : D.left = 0
          · have HR : Hid (S = (102, D)) := hide (HSV3.out.trans (if_pos hl))
            refine (ld_write_dead (H.out.below B1.out) 1 (some ⟨ge, 0, none⟩) k (by have := HNS.out; omega) hl).mono ?_
            rintro r w5 ⟨rfl, rfl⟩
            clear hl
            go_wp2_with fail
            go_ret
            exact ⟨by rw [HR.out]; rfl, by rw [HR.out]; exact Stp.of_below H.out B1.out⟩
          · have HSV4 := hide (HSV3.out.trans (if_neg hl))
            refine (ld_write3 (H.out.below B1.out) 1 ge k _ (ptBytes e c n f) cs (by have := HNS.out; omega) hl (by have := HS.out; omega) (by have := HQ.out; omega) (ptBytes_length _ _ _ _) hk KB.out KC.out (by obtain ⟨_, s, v, _, n1, _⟩ := OE.out; exact n1)).mono ?_
            rintro r w5 ⟨rfl, hld, hkp⟩
            have ST := hide ((Stp.of_below H.out B1.out).trans ⟨hld, hkp⟩)
            clear hld hkp hl
            go_wp2_with fail
            by_cases hl2 : (D.wrote 1 (ptBytes e c n f)).left = 0
            · have HR : Hid (S = (102, D.wrote 1 (ptBytes e c n f))) := hide (HSV4.out.trans (if_pos hl2))
              refine (ld_barrier_dead ST.out.ld hl2).mono ?_
              rintro r w6 ⟨rfl, rfl⟩
              clear hl2
              go_wp2_with fail
              go_ret
              exact ⟨by rw [HR.out]; rfl, by rw [HR.out]; exact ST.out⟩
            · have HR : Hid (S = (0, (D.wrote 1 (ptBytes e c n f)).barred)) := hide (HSV4.out.trans (if_neg hl2))
              refine (ld_barrier ST.out.ld hl2 (by show D.steps + 1 < 1000000; have := HS.out; omega)).mono ?_
              rintro r w6 ⟨rfl, hld, hkp⟩
              have ST2 := hide (ST.out.trans ⟨hld, hkp⟩)
              clear hld hkp hl2 ST
              go_wp2_with fail
              go_ret
              exact ⟨by rw [HR.out]; rfl, by rw [HR.out]; exact ST2.out⟩
      · rw [Bool.not_eq_true] at hn
        have HR : Hid (S = (103, D)) := hide (HSV2.out.trans (if_pos ⟨by omega, by rw [NEWP.out, hn]⟩))
        rw [hn]
        clear hn HSV2
        go_wp2_with fail
        go_ret
        exact ⟨by rw [HR.out]; rfl, by rw [HR.out]; exact Stp.of_below H.out B1.out⟩
end Go.Proofs.Ytfaingklglelnaa
