import Derived.Test.YtfaingklglelnaaJn09
import Derived.Test.YtfaingklglelnaaJn03
/- The walks over point.counts, Load. -/
namespace Go.Proofs.Ytfaingklglelnaa
open Go.RowKit
attribute [local go_sem ↓] Go.wp_at_zero Go.wp_at_succ

def pt0 : Pt := ⟨0, 0, 0, 0⟩
/-- Is it newer? -/
def Pt.newer (p q : Pt) : Bool := newP p.e p.c q.e q.c
abbrev Pt.cells (p : Pt) : Array Value := ptC p.e p.c p.n p.f
/-- One block more is looked at. -/
def cntStep (i : Nat) (o : Option Pt) (st : Nat × Pt) : Nat × Pt := match o with
  | none => st
  | some p => if st.1 = 0 ∨ p.newer st.2 = true then (i, p) else st
def cntUp (D : Dsk) : Nat → Nat × Pt
  | 0 => (0, pt0)
  | k + 1 => cntStep (k + 1) (decP (D.read (k + 1))) (cntUp D k)
/-- The block of the point that counts, and that. -/
def countsP (D : Dsk) : Nat × Pt := if 2 < D.sure.length then cntUp D 2 else (0, pt0)
theorem cntUp_le (D : Dsk) : ∀ k, (cntUp D k).1 ≤ k
  | 0 => Nat.le_refl _
  | k + 1 => by
    have := cntUp_le D k
    unfold cntUp cntStep
    split
    · omega
    · split
      · exact Nat.le_refl _
      · omega
theorem decV_none {l : List UInt8} (h : decP l = none) : decV l = .tuple #[ptV 0 0 0 0, .int .i64 100] := by unfold decV; rw [h]
theorem decV_some {l : List UInt8} {p : Pt} (h : decP l = some p) : decV l = .tuple #[p.val, .int .i64 0] := by unfold decV; rw [h]
theorem by_blkL {w : World} {g : Nat} {t : TypeId} {l : List UInt8} (h : Blk w g t (u8s l).toArray) : By w (g + 1) (some ⟨g, 0, none⟩) l.length l := by
  have := sl_blk (i := 0) (m := (u8s l).length) h (by omega)
  rw [List.drop_zero, List.take_length, u8s_length] at this
  exact this
theorem ret_cnt {K : Ending → World → Prop} {tmps : Array Value} {w : World} {g : Nat} {a b c d : Int} {v : Value} (hp : tmps.getD 3 undef = .pointer (some ⟨g, 0, none⟩)) (hq : tmps.getD 2 undef = v) (hB : Blk w g 23 (ptC a b c d))
    (hK : K (.returned (.tuple #[v, ptV a b c d])) w) : bodyPost Try.prog Try.f43 K .ret ⟨tmps, []⟩ w :=
  bodyPost_ret (results_tc rfl tmps w g _ _ (0, 0) _ hp hB Try.underlying23 rfl (by kernel_rfl)) rfl (by rw [hq]; exact hK)

set_option maxHeartbeats 4000000 in
theorem counts_any (w0 w : World) (d : Nat) (D : Dsk) (h : LD w0 w d D) :
    Calls Try.prog 43 #[.pointer (some ⟨d, 0, none⟩)] w fun e w' => e = .returned (.tuple #[.int .i64 ((countsP D).1 : Int), (countsP D).2.val]) ∧ Below w.heap.size w w' := by
  have H := hide h
  have HN := hide h.ok.n
  clear h
  go_enter Try.func43, Try.ntmps43
  go_wp2_with fail
  have K3 := hide ((Blk.new w 23 pt0.cells).alloc (.cells #[.int .i64 0, .int .i64 0, .int .i64 0, .int .i64 0] 23))
  have K5 := Blk.new (w.alloc (.cells #[.int .i64 0, .int .i64 0, .int .i64 0, .int .i64 0] 23)) 23 pt0.cells
  rw [World.size_alloc] at K5
  have K5 := hide K5
  have B1 := hide (((Below.refl w.heap.size w).alloc (Nat.le_refl _) (.cells #[.int .i64 0, .int .i64 0, .int .i64 0, .int .i64 0] 23)).alloc (by simp) (.cells #[.int .i64 0, .int .i64 0, .int .i64 0, .int .i64 0] 23))
  have C3 : Hid (Blk ((w.alloc (.cells #[.int .i64 0, .int .i64 0, .int .i64 0, .int .i64 0] 23)).alloc (.cells #[.int .i64 0, .int .i64 0, .int .i64 0, .int .i64 0] 23)) w.heap.size 23 pt0.cells) := hide K3.out
  have C5 : Hid (Blk ((w.alloc (.cells #[.int .i64 0, .int .i64 0, .int .i64 0, .int .i64 0] 23)).alloc (.cells #[.int .i64 0, .int .i64 0, .int .i64 0, .int .i64 0] 23)) (w.heap.size + 1) 23 pt0.cells) := hide K5.out
  clear K3 K5
  generalize (w.alloc (.cells #[.int .i64 0, .int .i64 0, .int .i64 0, .int .i64 0] 23)).alloc (.cells #[.int .i64 0, .int .i64 0, .int .i64 0, .int .i64 0] 23) = w1 at *
  obtain ⟨g3, hg3⟩ : ∃ g, g = w.heap.size := ⟨_, rfl⟩
  have HG := hide hg3
  rw [← hg3] at C3 C5 ⊢
  clear hg3
  obtain ⟨g5, hg5⟩ : ∃ g, g = g3 + 1 := ⟨_, rfl⟩
  have hne := hide (show g3 ≠ g5 by omega)
  have HG5 := hide (show g3 ≤ g5 by omega)
  rw [← hg5] at C5 ⊢
  clear hg5
  by_cases hbig : 2 < D.sure.length
  · have hbd : decide ((2 : Int) < (D.sure.length : Int)) = true := decide_eq_true (by omega)
    have HBIG := hide hbig
    have HRES := hide (show countsP D = cntUp D 2 from if_pos hbig)
    go_loopw [4, 6] (fun at_ i wr => ∃ j : Nat, j ≤ 2 ∧ i = .int .i64 ((j + 1 : Nat) : Int) ∧ at_ = .int .i64 ((cntUp D j).1 : Int) ∧ Blk wr g3 23 pt0.cells ∧ Blk wr g5 23 (cntUp D j).2.cells ∧ Below w.heap.size w wr) (fun _ i _ => 3 - (intOf i).toNat)
    case atStart => exact ⟨0, by omega, rfl, rfl, C3.out, C5.out, B1.out⟩
    case round =>
      obtain ⟨j, hj, rfl, rfl, h3, h5, hb⟩ := hrel
      replace C3 := hide h3
      replace C5 := hide h5
      replace B1 := hide hb
      clear h3 h5 hb
      by_cases hlt : j < 2
      · obtain ⟨i, hi⟩ : ∃ i, i = j + 1 := ⟨_, rfl⟩
        rw [← hi]
        have HI := hide hi
        have hi2 : (i : Int) ≤ 2 := by omega
        have hwi : IntKind.i64.wrap ((i : Int) + 1) = ((i + 1 : Nat) : Int) := by rw [IntKind.wrap_i64]; omega
        have HNX : Hid (cntUp D i = cntStep i (decP (D.read i)) (cntUp D j)) := hide (by rw [hi]; rfl)
        have HJ := hide (cntUp_le D j)
        have HLT := hide hlt
        clear hi hlt
        go_wp2_with fail
        refine (ld_size (H.out.below (B1.out.mono (Nat.le_refl _)))).mono ?_
        rintro e w2 ⟨rfl, rfl⟩
        go_wp2_with fail
        refine (ld_read (H.out.below (B1.out.mono (Nat.le_refl _))) i (by have := HI.out; have := HLT.out; have := HBIG.out; omega)).mono ?_
        rintro e w2 ⟨g, rfl, hg, hk, hb⟩
        have HRL := hide (read_len (H.out.below (B1.out.mono (Nat.le_refl _))) i (by have := HI.out; have := HLT.out; have := HBIG.out; omega))
        replace C3 := hide (C3.out.below hb)
        replace C5 := hide (C5.out.below hb)
        replace B1 := hide (B1.out.trans (hb.mono B1.out.size))
        have KB := by_blkL hk
        rw [HRL.out] at KB
        have KB := hide KB
        have HGL := hide hk.lt
        clear hb hk hg
        go_wp2_with fail
        refine (dec_any _ 64 64 (g + 1) _ w2 KB.out HGL.out (by decide) (by decide)).mono ?_
        rintro e w3 ⟨rfl, hb⟩
        replace C3 := hide (C3.out.below hb)
        replace C5 := hide (C5.out.below hb)
        replace B1 := hide (B1.out.trans (hb.mono B1.out.size))
        clear hb KB HGL hbd
        obtain ⟨st, hst⟩ : ∃ st, st = cntUp D j := ⟨_, rfl⟩
        rw [← hst] at C5 HNX HJ ⊢
        clear hst
        obtain ⟨a, bp⟩ := st
        rcases ho : decP (D.read i) with _ | p
        · rw [ho] at HNX
          rw [decV_none ho]
          replace HNX : Hid (cntUp D i = (a, bp)) := hide HNX.out
          clear ho
          go_wp2_with fail
          go_roundw
          case rel => exact ⟨j + 1, by have := HLT.out; omega, by have := HI.out; rw [Value.int.injEq]; exact ⟨rfl, by omega⟩, by rw [← HI.out, HNX.out], C3.out.alloc _, by rw [← HI.out, HNX.out]; exact C5.out.alloc _, B1.out.alloc B1.out.size _⟩
          case measure => have := HI.out; have := HLT.out; simp [intOf]; omega
        · rw [ho] at HNX
          rw [decV_some ho]
          clear ho
          obtain ⟨pe, pc, pn, pf⟩ := p
          obtain ⟨be, bc, bn, bf⟩ := bp
          have C9 := hide (Blk.new w3 23 (ptC pe pc pn pf))
          replace C3 := hide (C3.out.alloc (.cells (ptC pe pc pn pf) 23))
          replace C5 : Hid (Blk _ g5 _ (ptC be bc bn bf)) := hide (C5.out.alloc (.cells (ptC pe pc pn pf) 23))
          replace B1 := hide (B1.out.alloc B1.out.size (.cells (ptC pe pc pn pf) 23))
          obtain ⟨c0, c1, c2, c3⟩ := ptb4 C5.out
          obtain ⟨f0, f1, f2, f3⟩ := blk4f C5.out
          obtain ⟨e0, e1, e2, e3⟩ := ptb4 C9.out
          by_cases ha : a = 0
          · subst ha
            replace HNX : Hid (cntUp D i = (i, ⟨pe, pc, pn, pf⟩)) := hide (by rw [HNX.out]; rfl)
            go_wp2_with fail
            go_region
            go_wp2_with fail
            go_roundw
            case rel => exact ⟨j + 1, by have := HLT.out; omega, by have := HI.out; rw [Value.int.injEq]; exact ⟨rfl, by omega⟩, by rw [← HI.out, HNX.out], (put4_far C3.out hne.out).drew, by rw [← HI.out, HNX.out]; exact (put4_blk C5.out).drew, (put4_bel B1.out (by rw [← HG.out]; exact HG5.out)).drew⟩
            case measure => have := HI.out; have := HLT.out; simp [intOf]; omega
          · have hat : ((a : Int) == 0) = false := by simp; omega
            go_wp2_with fail
            refine (newer_any pe pc pn pf be bc bn bf _).mono ?_
            rintro e w4 ⟨rfl, hb⟩
            replace C3 := hide (C3.out.below hb)
            replace C5 := hide (C5.out.below hb)
            replace C9 := hide (C9.out.below hb)
            replace B1 := hide (B1.out.trans (hb.mono B1.out.size))
            clear c0 c1 c2 c3 f0 f1 f2 f3 e0 e1 e2 e3 hb
            by_cases hn : newP pe pc be bc = true
            · replace HNX : Hid (cntUp D i = (i, ⟨pe, pc, pn, pf⟩)) := hide (HNX.out.trans (if_pos (.inr hn)))
              rw [hn]
              clear hn
              obtain ⟨c0, c1, c2, c3⟩ := ptb4 C5.out
              obtain ⟨f0, f1, f2, f3⟩ := blk4f C5.out
              obtain ⟨e0, e1, e2, e3⟩ := ptb4 C9.out
              generalize w3.heap.size = g9 at *
              go_wp2_with fail
              go_region
              go_wp2_with fail
              go_roundw
              case rel => exact ⟨j + 1, by have := HLT.out; omega, by have := HI.out; rw [Value.int.injEq]; exact ⟨rfl, by omega⟩, by rw [← HI.out, HNX.out], (put4_far C3.out hne.out).drew, by rw [← HI.out, HNX.out]; exact (put4_blk C5.out).drew, (put4_bel B1.out (by rw [← HG.out]; exact HG5.out)).drew⟩
              case measure => have := HI.out; have := HLT.out; simp [intOf]; omega
            · replace HNX : Hid (cntUp D i = (a, ⟨be, bc, bn, bf⟩)) := hide (HNX.out.trans (if_neg (by rintro (h | h); exact ha h; exact hn h)))
              rw [Bool.not_eq_true] at hn
              rw [hn]
              clear hn
              go_wp2_with fail
              go_roundw
              case rel => exact ⟨j + 1, by have := HLT.out; omega, by have := HI.out; rw [Value.int.injEq]; exact ⟨rfl, by omega⟩, by rw [← HI.out, HNX.out], C3.out, by rw [← HI.out, HNX.out]; exact C5.out, B1.out⟩
              case measure => have := HI.out; have := HLT.out; simp [intOf]; omega
      · have hj2 : j = 2 := by omega
        subst hj2
        have HR2 := hide HRES.out
        obtain ⟨st, hst⟩ : ∃ st, st = cntUp D 2 := ⟨_, rfl⟩
        rw [← hst] at C5 HR2 ⊢
        clear hst hlt
        obtain ⟨a, be, bc, bn, bf⟩ := st
        replace C5 : Hid (Blk _ g5 _ (ptC be bc bn bf)) := hide C5.out
        obtain ⟨c0, c1, c2, c3⟩ := ptb4 C3.out
        obtain ⟨f0, f1, f2, f3⟩ := blk4f C3.out
        obtain ⟨e0, e1, e2, e3⟩ := ptb4 C5.out
        go_wp2_with fail
        go_region
        go_wp2_with fail
        exact ret_cnt rfl rfl (put4_blk C3.out).drew ⟨by rw [HR2.out]; rfl, (put4_bel B1.out (by rw [HG.out]; exact Nat.le_refl _)).drew⟩
  · have hbd : decide ((2 : Int) < (D.sure.length : Int)) = false := decide_eq_false (by omega)
    have HR2 := hide (show countsP D = (0, pt0) from if_neg hbig)
    clear hbig
    go_loopw [4, 6] (fun at_ i wr => i = .int .i64 1 ∧ at_ = .int .i64 0 ∧ wr = w1) (fun _ i _ => 3 - (intOf i).toNat)
    case atStart => exact ⟨rfl, rfl, rfl⟩
    case round =>
      obtain ⟨rfl, rfl, rfl⟩ := hrel
      go_wp2_with fail
      refine (ld_size (H.out.below B1.out)).mono ?_
      rintro e w2 ⟨rfl, rfl⟩
      replace C5 : Hid (Blk _ g5 _ (ptC (0 : Nat) (0 : Nat) (0 : Nat) (0 : Nat))) := hide C5.out
      obtain ⟨c0, c1, c2, c3⟩ := ptb4 C3.out
      obtain ⟨f0, f1, f2, f3⟩ := blk4f C3.out
      obtain ⟨e0, e1, e2, e3⟩ := ptb4 C5.out
      go_wp2_with fail
      go_region
      go_wp2_with fail
      exact ret_cnt rfl rfl (put4_blk C3.out).drew ⟨by rw [HR2.out]; rfl, (put4_bel B1.out (by rw [HG.out]; exact Nat.le_refl _)).drew⟩

theorem ret_load {K : Ending → World → Prop} {tmps : Array Value} {w : World} {g : Nat} {a b c d : Int} {v : Value} (hp : tmps.getD 2 undef = .pointer (some ⟨g, 0, none⟩)) (hq : tmps.getD 3 undef = v) (hB : Blk w g 23 (ptC a b c d))
    (hK : K (.returned (.tuple #[ptV a b c d, v])) w) : bodyPost Try.prog Try.f21 K .ret ⟨tmps, []⟩ w :=
  bodyPost_ret (results_ct rfl tmps w g _ _ (0, 0) _ hp hB Try.underlying23 rfl (by kernel_rfl)) rfl (by rw [hq]; exact hK)
set_option maxHeartbeats 4000000 in
theorem load_any (w0 w : World) (d : Nat) (D : Dsk) (h : LD w0 w d D) :
    Calls Try.prog 21 #[.pointer (some ⟨d, 0, none⟩)] w fun e w' => e = .returned (.tuple #[(countsP D).2.val, .bool (decide (0 < (countsP D).1))]) ∧ Below w.heap.size w w' := by
  have H := hide h
  clear h
  go_enter Try.func21, Try.ntmps21
  go_wp2_with fail
  have C2 : Hid (Blk (w.alloc (.cells #[.int .i64 0, .int .i64 0, .int .i64 0, .int .i64 0] 23)) w.heap.size 23 pt0.cells) := hide (Blk.new w 23 pt0.cells)
  have B1 := hide ((Below.refl w.heap.size w).alloc (Nat.le_refl _) (.cells #[.int .i64 0, .int .i64 0, .int .i64 0, .int .i64 0] 23))
  generalize w.alloc (.cells #[.int .i64 0, .int .i64 0, .int .i64 0, .int .i64 0] 23) = w1 at *
  refine (counts_any _ _ _ _ (H.out.below B1.out)).mono ?_
  rintro e w2 ⟨rfl, hb⟩
  obtain ⟨st, hst⟩ : ∃ st, st = countsP D := ⟨_, rfl⟩
  rw [← hst]
  have HST := hide hst
  clear hst
  obtain ⟨a, be, bc, bn, bf⟩ := st
  replace C2 := hide ((C2.out.below hb).alloc (.cells (ptC be bc bn bf) 23))
  have C5 := hide (Blk.new w2 23 (ptC be bc bn bf))
  replace B1 := hide ((B1.out.trans (hb.mono B1.out.size)).alloc (Nat.le_trans B1.out.size hb.size) (.cells (ptC be bc bn bf) 23))
  clear hb
  obtain ⟨c0, c1, c2, c3⟩ := ptb4 C2.out
  obtain ⟨f0, f1, f2, f3⟩ := blk4f C2.out
  obtain ⟨e0, e1, e2, e3⟩ := ptb4 C5.out
  go_wp2_with fail
  exact ret_load rfl rfl (put4_blk C2.out) ⟨by rw [← HST.out]; rfl, put4_bel B1.out (Nat.le_refl _)⟩
end Go.Proofs.Ytfaingklglelnaa

/- The walks over point.Save, Wipe. -/
namespace Go.Proofs.Ytfaingklglelnaa
open Go.RowKit
attribute [local go_sem ↓] Go.wp_at_zero Go.wp_at_succ

/-- A write whose bytes lie at the head of a block that may be longer. -/
theorem ld_write3 {w0 w : World} {d : Nat} {D : Dsk} (h : LD w0 w d D) (i : Nat) (g c : Nat) (t : TypeId) (b : List UInt8) (cs : Array Value) (hi : i < D.sure.length) (hl : D.left ≠ 0) (hs : D.steps < 1000000) (hq : D.queue.length < 1000000) (hb : b.length = 64) (hc : 64 ≤ c) (hg : Blk w g t cs) (hcs : ∀ (j : Nat) (u : Value), (u8s b)[j]? = some u → cs[j]? = some u) (hgd : g ≠ d) :
    Calls Try.prog 31 #[.pointer (some ⟨d, 0, none⟩), .int .i64 (i : Int), .slice (some ⟨g, 0, none⟩) 64 c] w fun e w' => e = .returned (.int .i64 0) ∧ LD w0 w' d (D.wrote i b) ∧
      ∃ gs, Kp gs w w' ∧ ∀ k, Out w0 w d D k → k ∉ gs ∧ Out w0 w' d (D.wrote i b) k := by
  obtain ⟨s, v, hD⟩ := h.ex
  refine (write_ok w _ d s v D i ⟨g, 0, none⟩ c b hD hi hl hs hq hb hc (fun w' hk j u hu => by
    rw [Addr.add_mid, Nat.zero_add, (hg.kp hk (by simpa using hgd)).cell]
    exact hcs j u hu)).mono ?_
  rintro e w' ⟨rfl, v', hD', hk, hnew⟩
  refine ⟨rfl, ⟨⟨s, v', hD'⟩, ?_⟩, d :: v.ownBlock.toList, hk (d :: v.ownBlock.toList) (by simp) (fun g hg => by simp [hg]), fun k hn => ?_⟩
  · refine Below.kp2 h.bel (hk (d :: v.ownBlock.toList) (by simp) (fun g hg => by simp [hg])) h.bel.size (fun g hg => ?_)
    rcases List.mem_cons.1 hg with rfl | hg
    · exact hD.db
    · exact (dsk_own hD (by simpa using hg)).1
  · obtain ⟨hkl, s2, v2, hD2, n1, n2, n3⟩ := hn
    obtain ⟨rfl, rfl⟩ := dsk_same hD hD2
    have hK := hk (d :: v.ownBlock.toList) (by simp) (fun g hg => by simp [hg])
    refine ⟨?_, Nat.lt_of_lt_of_le hkl hK.size, s, v', hD', n1, n2, ?_⟩
    · intro hm
      rcases List.mem_cons.1 hm with rfl | hm
      · exact n1 rfl
      · exact n3 (by simpa using hm)
    · intro e
      rcases hnew k e with h | h
      · exact n3 h
      · omega
/-- Of a row of the call's own that holds 64 bytes: its block. -/
theorem own64 {w : World} {base n k : Nat} {A : Option Addr} {l : List UInt8} (h : w.ownsRow base 5 1 (.slice A n k) n (u8s l)) (hn : 0 < n) (hl : l.length = n) : ∃ g cs, A = some ⟨g, 0, none⟩ ∧ base ≤ g ∧ g < w.heap.size ∧ n ≤ k ∧ Blk w g 5 cs ∧ ∀ (j : Nat) (u : Value), (u8s l)[j]? = some u → cs[j]? = some u := by
  rcases h.2 with ⟨-, h0⟩ | ⟨g, cap, cur, hv, hb, hB, hc, -, -, hx⟩
  · omega
  · simp only [Value.slice.injEq] at hv
    obtain ⟨rfl, -, rfl⟩ := hv
    refine ⟨g, cur, rfl, hb, (Array.getElem?_eq_some_iff.1 hB).1, hc, hB, fun j u hj => ?_⟩
    rw [← hx, List.getElem?_take] at hj
    split at hj
    · simpa using hj
    · cases hj

/-- Steps of a law's disk: it reads D', and no block that is none of its own has changed. -/
structure Stp (w0 w w' : World) (d : Nat) (D D' : Dsk) : Prop where
  ld : LD w0 w' d D'
  kp : ∃ gs, Kp gs w w' ∧ ∀ k, Out w0 w d D k → k ∉ gs ∧ Out w0 w' d D' k
section
variable {w0 w w1 w2 : World} {d : Nat} {D D1 D2 : Dsk}
theorem Stp.trans (h : Stp w0 w w1 d D D1) (k : Stp w0 w1 w2 d D1 D2) : Stp w0 w w2 d D D2 := by
  obtain ⟨gs, h1, h2⟩ := h.kp
  obtain ⟨gs', k1, k2⟩ := k.kp
  refine ⟨k.ld, gs ++ gs', (h1.more (fun g hg => List.mem_append_left _ hg)).trans (k1.more (fun g hg => List.mem_append_right _ hg)), fun b hb => ?_⟩
  obtain ⟨a1, a2⟩ := h2 b hb
  obtain ⟨b1, b2⟩ := k2 b a2
  exact ⟨by simp [a1, b1], b2⟩
theorem Stp.of_below (h : LD w0 w d D) (hb : Below w.heap.size w w1) : Stp w0 w w1 d D D := ⟨h.below hb, [], Kp.of_below hb, fun k hk => ⟨by simp, hk.below hb⟩⟩
theorem Stp.refl (h : LD w0 w d D) : Stp w0 w w d D D := Stp.of_below h (Below.refl _ _)
theorem Stp.below (h : Stp w0 w w1 d D D1) (hb : Below w1.heap.size w1 w2) : Stp w0 w w2 d D D1 := h.trans (Stp.of_below h.ld hb)
theorem Stp.blk (h : Stp w0 w w1 d D D1) {g : Nat} {t : TypeId} {cs : Array Value} (hB : Blk w g t cs) (ho : Out w0 w d D g) : Blk w1 g t cs := by
  obtain ⟨gs, h1, h2⟩ := h.kp
  exact hB.kp h1 (h2 g ho).1
theorem Stp.out (h : Stp w0 w w1 d D D1) {g : Nat} (ho : Out w0 w d D g) : Out w0 w1 d D1 g := by
  obtain ⟨gs, h1, h2⟩ := h.kp
  exact (h2 g ho).2
theorem Stp.size (h : Stp w0 w w1 d D D1) : w.heap.size ≤ w1.heap.size := by
  obtain ⟨gs, h1, h2⟩ := h.kp
  exact h1.size
end

/-- What Save answers, and leaves of the disk. -/
def saveP (D : Dsk) (p : Pt) : Int × Dsk :=
  if D.sure.length < 3 then (22, D)
  else if 0 < (countsP D).1 ∧ p.newer (countsP D).2 = false then (103, D)
  else if D.left = 0 then (102, D)
  else
    let D1 := D.wrote (if (countsP D).1 = 1 then 2 else 1) p.bytes
    if D1.left = 0 then (102, D1) else (0, D1.barred)

theorem saveP_cases (D : Dsk) (p : Pt) : (saveP D p).2 = D ∨ (∃ i, i < D.sure.length ∧ (saveP D p).2 = D.wrote i p.bytes) ∨ ∃ i, i < D.sure.length ∧ (saveP D p).2 = (D.wrote i p.bytes).barred := by
  unfold saveP
  generalize hi : (if (countsP D).1 = 1 then 2 else 1) = i
  have hi3 : i < 3 := by rw [← hi]; split <;> omega
  by_cases h1 : D.sure.length < 3
  · rw [if_pos h1]; exact .inl rfl
  · rw [if_neg h1]
    by_cases h2 : 0 < (countsP D).1 ∧ p.newer (countsP D).2 = false
    · rw [if_pos h2]; exact .inl rfl
    · rw [if_neg h2]
      by_cases h3 : D.left = 0
      · rw [if_pos h3]; exact .inl rfl
      · rw [if_neg h3]
        dsimp only
        by_cases h4 : (D.wrote i p.bytes).left = 0
        · rw [if_pos h4]; exact .inr (.inl ⟨i, by omega, rfl⟩)
        · rw [if_neg h4]; exact .inr (.inr ⟨i, by omega, rfl⟩)
theorem saveP_steps (D : Dsk) (p : Pt) : (saveP D p).2.steps ≤ D.steps + 2 ∧ (saveP D p).2.queue.length ≤ D.queue.length + 1 := by
  rcases saveP_cases D p with h | ⟨i, -, h⟩ | ⟨i, -, h⟩ <;> rw [h]
  · omega
  · exact ⟨by show D.steps + 1 ≤ _; omega, by show (D.queue ++ [_]).length ≤ _; rw [List.length_append, List.length_singleton]; omega⟩
  · exact ⟨by show D.steps + 1 + 1 ≤ _; omega, by show ([] : List (Nat × List UInt8)).length ≤ _; rw [List.length_nil]; omega⟩

theorem save_no (w0 w : World) (d : Nat) (D : Dsk) (h : LD w0 w d D) (e c n f : Int) (hp : ¬ PtP e c n f) :
    Calls Try.prog 20 #[.pointer (some ⟨d, 0, none⟩), ptV e c n f] w fun r w' => r = .returned (.int .i64 22) ∧ Stp w0 w w' d D D := by
  have H := hide h
  have HP := hide hp
  clear h hp
  go_enter Try.func20, Try.ntmps20
  go_wp2_with fail
  have B1 := hide ((Below.refl w.heap.size w).alloc (Nat.le_refl _) (.cells (ptC e c n f) 23))
  generalize w.alloc (.cells (ptC e c n f) 23) = w1 at *
  refine (enc_no e c n f w1 HP.out).mono ?_
  rintro r w2 ⟨rfl, hb⟩
  replace B1 := hide (B1.out.trans (hb.mono B1.out.size))
  clear hb
  go_wp2_with fail
  go_ret
  exact ⟨rfl, Stp.of_below H.out B1.out⟩

set_option maxHeartbeats 2000000 in
theorem save_yes (w0 w : World) (d : Nat) (D : Dsk) (h : LD w0 w d D) (p : Pt) (hp : p.P) (hs : D.steps < 900000) (hq : D.queue.length < 900000) :
    Calls Try.prog 20 #[.pointer (some ⟨d, 0, none⟩), p.val] w fun r w' => r = .returned (.int .i64 (saveP D p).1) ∧ Stp w0 w w' d D (saveP D p).2 := by
  have H := hide h
  have HP := hide hp
  have HS := hide hs
  have HQ := hide hq
  have HNN := h.ok.n
  obtain ⟨e, c, n, f⟩ := p
  obtain ⟨S, hS⟩ : ∃ S, S = saveP D ⟨e, c, n, f⟩ := ⟨_, rfl⟩
  have HSV := hide hS
  rw [← hS]
  clear h hp hS hs hq
  go_enter Try.func20, Try.ntmps20
  go_wp2_with fail
  have C3 : Hid (Blk (w.alloc (.cells (ptC e c n f) 23)) w.heap.size 23 (ptC e c n f)) := hide (Blk.new w 23 (ptC e c n f))
  have B1 := hide ((Below.refl w.heap.size w).alloc (Nat.le_refl _) (.cells (ptC e c n f) 23))
  generalize w.alloc (.cells (ptC e c n f) 23) = w1 at *
  refine (enc_yes e c n f w1 HP.out).mono ?_
  rintro r w2 ⟨A, k, rfl, hown, hb⟩
  obtain ⟨ge, cs, rfl, hgb, hgl, hk, hB, hcs⟩ := own64 hown (by decide) (ptBytes_length _ _ _ _)
  have KB := hide hB
  have KC := hide hcs
  have OE := hide ((H.out.below B1.out).out hb hgb hgl)
  replace C3 := hide (C3.out.below hb)
  replace B1 := hide (B1.out.trans (hb.mono B1.out.size))
  clear hb hown hgb hgl hB hcs
  go_wp2_with fail
  refine (ld_size (H.out.below B1.out)).mono ?_
  rintro r w3 ⟨rfl, rfl⟩
  by_cases h3 : D.sure.length < 3
  · have HR : Hid (S = (22, D)) := hide (by rw [HSV.out]; exact if_pos h3)
    have h3d : decide ((D.sure.length : Int) < 3) = true := decide_eq_true (by omega)
    clear h3
    go_wp2_with fail
    go_ret
    exact ⟨by rw [HR.out]; rfl, by rw [HR.out]; exact Stp.of_below H.out B1.out⟩
  · have HSV2 := hide (HSV.out.trans (if_neg h3))
    have h3d : decide ((D.sure.length : Int) < 3) = false := decide_eq_false (by omega)
    have HNS := hide h3
    clear h3 HSV
    go_wp2_with fail
    refine (counts_any w0 w2 d D (H.out.below B1.out)).mono ?_
    rintro r w4 ⟨rfl, hb⟩
    obtain ⟨st, hst⟩ : ∃ st, st = countsP D := ⟨_, rfl⟩
    rw [← hst] at HSV2 ⊢
    clear hst
    obtain ⟨a, be, bc, bn, bf⟩ := st
    replace OE := hide ((OE.out.below hb).below ((Below.refl _ w4).alloc (Nat.le_refl _) (.cells (ptC be bc bn bf) 23)))
    replace KB := hide ((KB.out.below hb).alloc (.cells (ptC be bc bn bf) 23))
    replace C3 := hide ((C3.out.below hb).alloc (.cells (ptC be bc bn bf) 23))
    have C5 := hide (Blk.new w4 23 (ptC be bc bn bf))
    replace B1 := hide ((B1.out.trans (hb.mono B1.out.size)).alloc (Nat.le_trans B1.out.size hb.size) (.cells (ptC be bc bn bf) 23))
    clear hb
    obtain ⟨c0, c1, c2, c3⟩ := ptb4 C3.out
    obtain ⟨e0, e1, e2, e3⟩ := ptb4 C5.out
    have NEWP := hide (show Pt.newer ⟨e, c, n, f⟩ ⟨be, bc, bn, bf⟩ = newP e c be bc from rfl)
    simp only at HSV2
    by_cases ha : a = 0
    · subst ha
      have HSV3 : Hid (S = if D.left = 0 then (102, D) else if (D.wrote 1 (ptBytes e c n f)).left = 0 then (102, D.wrote 1 (ptBytes e c n f)) else (0, (D.wrote 1 (ptBytes e c n f)).barred)) := hide (HSV2.out.trans (if_neg (by rintro ⟨h, -⟩; exact absurd h (by decide))))
      clear HSV2
      go_wp2_with fail
      by_cases hl : D.left = 0
      · have HR : Hid (S = (102, D)) := hide (HSV3.out.trans (if_pos hl))
        refine (ld_write_dead (H.out.below B1.out) 1 (some ⟨ge, 0, none⟩) k (by have := HNS.out; omega) hl).mono ?_
        rintro r w5 ⟨rfl, rfl⟩
        clear hl
        go_wp2_with fail
        go_ret
        exact ⟨by rw [HR.out]; rfl, by rw [HR.out]; exact Stp.of_below H.out B1.out⟩
      · have HSV4 := hide (HSV3.out.trans (if_neg hl))
        refine (ld_write3 (H.out.below B1.out) 1 ge k _ (ptBytes e c n f) cs (by have := HNS.out; omega) hl (by have := HS.out; omega) (by have := HQ.out; omega) (ptBytes_length _ _ _ _) hk KB.out KC.out (by obtain ⟨_, s, v, _, n1, _⟩ := OE.out; exact n1)).mono ?_
        rintro r w5 ⟨rfl, hld, hkp⟩
        have ST := hide ((Stp.of_below H.out B1.out).trans ⟨hld, hkp⟩)
        clear hld hkp hl
        go_wp2_with fail
        by_cases hl2 : (D.wrote 1 (ptBytes e c n f)).left = 0
        · have HR : Hid (S = (102, D.wrote 1 (ptBytes e c n f))) := hide (HSV4.out.trans (if_pos hl2))
          refine (ld_barrier_dead ST.out.ld hl2).mono ?_
          rintro r w6 ⟨rfl, rfl⟩
          clear hl2
          go_wp2_with fail
          go_ret
          exact ⟨by rw [HR.out]; rfl, by rw [HR.out]; exact ST.out⟩
        · have HR : Hid (S = (0, (D.wrote 1 (ptBytes e c n f)).barred)) := hide (HSV4.out.trans (if_neg hl2))
          refine (ld_barrier ST.out.ld hl2 (by show D.steps + 1 < 1000000; have := HS.out; omega)).mono ?_
          rintro r w6 ⟨rfl, hld, hkp⟩
          have ST2 := hide (ST.out.trans ⟨hld, hkp⟩)
          clear hld hkp hl2 ST
          go_wp2_with fail
          go_ret
          exact ⟨by rw [HR.out]; rfl, by rw [HR.out]; exact ST2.out⟩
    · have had : decide (0 < (a : Int)) = true := decide_eq_true (by omega)
      go_wp2_with fail
      refine (newer_any e c n f be bc bn bf _).mono ?_
      rintro r w5 ⟨rfl, hb⟩
      replace OE := hide (OE.out.below hb)
      replace KB := hide (KB.out.below hb)
      replace B1 := hide (B1.out.trans (hb.mono B1.out.size))
      clear c0 c1 c2 c3 e0 e1 e2 e3 C3 C5 hb
      generalize w4.heap.size = g8 at *
      by_cases hn : newP e c be bc = true
      · replace HSV2 := hide (HSV2.out.trans (if_neg (by rintro ⟨-, h⟩; rw [NEWP.out, hn] at h; cases h)))
        rw [hn]
        clear hn
        by_cases h1 : a = 1
        · have h1d : ((a : Int) == 1) = true := by rw [beq_iff_eq]; omega
          have HSV3 : Hid (S = if D.left = 0 then (102, D) else if (D.wrote 2 (ptBytes e c n f)).left = 0 then (102, D.wrote 2 (ptBytes e c n f)) else (0, (D.wrote 2 (ptBytes e c n f)).barred)) := hide (by have h := HSV2.out; rw [if_pos h1] at h; exact h)
          clear HSV2 h1 ha
          go_wp2_with fail
          by_cases hl : D.left = 0
          · have HR : Hid (S = (102, D)) := hide (HSV3.out.trans (if_pos hl))
            refine (ld_write_dead (H.out.below B1.out) 2 (some ⟨ge, 0, none⟩) k (by have := HNS.out; omega) hl).mono ?_
            rintro r w5 ⟨rfl, rfl⟩
            clear hl
            go_wp2_with fail
            go_ret
            exact ⟨by rw [HR.out]; rfl, by rw [HR.out]; exact Stp.of_below H.out B1.out⟩
          · have HSV4 := hide (HSV3.out.trans (if_neg hl))
            refine (ld_write3 (H.out.below B1.out) 2 ge k _ (ptBytes e c n f) cs (by have := HNS.out; omega) hl (by have := HS.out; omega) (by have := HQ.out; omega) (ptBytes_length _ _ _ _) hk KB.out KC.out (by obtain ⟨_, s, v, _, n1, _⟩ := OE.out; exact n1)).mono ?_
            rintro r w5 ⟨rfl, hld, hkp⟩
            have ST := hide ((Stp.of_below H.out B1.out).trans ⟨hld, hkp⟩)
            clear hld hkp hl
            go_wp2_with fail
            by_cases hl2 : (D.wrote 2 (ptBytes e c n f)).left = 0
            · have HR : Hid (S = (102, D.wrote 2 (ptBytes e c n f))) := hide (HSV4.out.trans (if_pos hl2))
              refine (ld_barrier_dead ST.out.ld hl2).mono ?_
              rintro r w6 ⟨rfl, rfl⟩
              clear hl2
              go_wp2_with fail
              go_ret
              exact ⟨by rw [HR.out]; rfl, by rw [HR.out]; exact ST.out⟩
            · have HR : Hid (S = (0, (D.wrote 2 (ptBytes e c n f)).barred)) := hide (HSV4.out.trans (if_neg hl2))
              refine (ld_barrier ST.out.ld hl2 (by show D.steps + 1 < 1000000; have := HS.out; omega)).mono ?_
              rintro r w6 ⟨rfl, hld, hkp⟩
              have ST2 := hide (ST.out.trans ⟨hld, hkp⟩)
              clear hld hkp hl2 ST
              go_wp2_with fail
              go_ret
              exact ⟨by rw [HR.out]; rfl, by rw [HR.out]; exact ST2.out⟩
        · have h1d : ((a : Int) == 1) = false := by rw [beq_eq_false_iff_ne]; omega
          have HSV3 : Hid (S = if D.left = 0 then (102, D) else if (D.wrote 1 (ptBytes e c n f)).left = 0 then (102, D.wrote 1 (ptBytes e c n f)) else (0, (D.wrote 1 (ptBytes e c n f)).barred)) := hide (by have h := HSV2.out; rw [if_neg h1] at h; exact h)
          clear HSV2 h1 ha
          go_wp2_with fail
          by_cases hl : D.left = 0
          · have HR : Hid (S = (102, D)) := hide (HSV3.out.trans (if_pos hl))
            refine (ld_write_dead (H.out.below B1.out) 1 (some ⟨ge, 0, none⟩) k (by have := HNS.out; omega) hl).mono ?_
            rintro r w5 ⟨rfl, rfl⟩
            clear hl
            go_wp2_with fail
            go_ret
            exact ⟨by rw [HR.out]; rfl, by rw [HR.out]; exact Stp.of_below H.out B1.out⟩
          · have HSV4 := hide (HSV3.out.trans (if_neg hl))
            refine (ld_write3 (H.out.below B1.out) 1 ge k _ (ptBytes e c n f) cs (by have := HNS.out; omega) hl (by have := HS.out; omega) (by have := HQ.out; omega) (ptBytes_length _ _ _ _) hk KB.out KC.out (by obtain ⟨_, s, v, _, n1, _⟩ := OE.out; exact n1)).mono ?_
            rintro r w5 ⟨rfl, hld, hkp⟩
            have ST := hide ((Stp.of_below H.out B1.out).trans ⟨hld, hkp⟩)
            clear hld hkp hl
            go_wp2_with fail
            by_cases hl2 : (D.wrote 1 (ptBytes e c n f)).left = 0
            · have HR : Hid (S = (102, D.wrote 1 (ptBytes e c n f))) := hide (HSV4.out.trans (if_pos hl2))
              refine (ld_barrier_dead ST.out.ld hl2).mono ?_
              rintro r w6 ⟨rfl, rfl⟩
              clear hl2
              go_wp2_with fail
              go_ret
              exact ⟨by rw [HR.out]; rfl, by rw [HR.out]; exact ST.out⟩
            · have HR : Hid (S = (0, (D.wrote 1 (ptBytes e c n f)).barred)) := hide (HSV4.out.trans (if_neg hl2))
              refine (ld_barrier ST.out.ld hl2 (by show D.steps + 1 < 1000000; have := HS.out; omega)).mono ?_
              rintro r w6 ⟨rfl, hld, hkp⟩
              have ST2 := hide (ST.out.trans ⟨hld, hkp⟩)
              clear hld hkp hl2 ST
              go_wp2_with fail
              go_ret
              exact ⟨by rw [HR.out]; rfl, by rw [HR.out]; exact ST2.out⟩
      · rw [Bool.not_eq_true] at hn
        have HR : Hid (S = (103, D)) := hide (HSV2.out.trans (if_pos ⟨by omega, by rw [NEWP.out, hn]⟩))
        rw [hn]
        clear hn HSV2
        go_wp2_with fail
        go_ret
        exact ⟨by rw [HR.out]; rfl, by rw [HR.out]; exact Stp.of_below H.out B1.out⟩
end Go.Proofs.Ytfaingklglelnaa

/- The walk over point.Wipe; writes and barriers as one answer. -/
namespace Go.Proofs.Ytfaingklglelnaa
open Go.RowKit
attribute [local go_sem ↓] Go.wp_at_zero Go.wp_at_succ

/-- A write's answer, and what it leaves. -/
def wrtP (D : Dsk) (x : Int) (b : List UInt8) : Int × Dsk := if ¬ (0 ≤ x ∧ x < D.sure.length) then (22, D) else if D.left = 0 then (102, D) else (0, D.wrote x.toNat b)
def barP (D : Dsk) : Int × Dsk := if D.left = 0 then (102, D) else (0, D.barred)
def armP (D : Dsk) (n : Int) : Int × Dsk := if n < 0 then (22, D) else if D.left = 0 then (102, D) else (0, { D with left := n })
def wipeP (D : Dsk) : Int × Dsk :=
  if D.sure.length < 3 then (22, D) else
  if (wrtP D 1 zero64).1 ≠ 0 then wrtP D 1 zero64 else
  if (wrtP (wrtP D 1 zero64).2 2 zero64).1 ≠ 0 then wrtP (wrtP D 1 zero64).2 2 zero64 else barP (wrtP (wrtP D 1 zero64).2 2 zero64).2
theorem wrtP_num (D : Dsk) (x : Int) (b : List UInt8) : (wrtP D x b).2.steps ≤ D.steps + 1 ∧ (wrtP D x b).2.queue.length ≤ D.queue.length + 1 ∧ (wrtP D x b).2.sure.length = D.sure.length := by
  unfold wrtP
  split
  · exact ⟨Nat.le_succ _, by first | exact Nat.le_succ _ | exact Nat.le_refl _, rfl⟩
  · split
    · exact ⟨Nat.le_succ _, by first | exact Nat.le_succ _ | exact Nat.le_refl _, rfl⟩
    · exact ⟨Nat.le_refl _, by show (D.queue ++ [_]).length ≤ _; rw [List.length_append]; exact Nat.le_refl _, rfl⟩
theorem barP_num (D : Dsk) : (barP D).2.steps ≤ D.steps + 1 ∧ (barP D).2.queue.length ≤ D.queue.length ∧ (barP D).2.sure.length = D.sure.length := by
  unfold barP
  split
  · exact ⟨Nat.le_succ _, by first | exact Nat.le_succ _ | exact Nat.le_refl _, rfl⟩
  · exact ⟨Nat.le_refl _, Nat.zero_le _, putQ_len _ _⟩
section
variable {w0 w : World} {d : Nat} {D : Dsk}
theorem wr_stp (h : LD w0 w d D) (x : Int) (g c : Nat) (t : TypeId) (b : List UInt8) (cs : Array Value) (hs : D.steps < 1000000) (hq : D.queue.length < 1000000) (hb : b.length = 64) (hc : 64 ≤ c) (hg : Blk w g t cs) (hcs : ∀ (j : Nat) (u : Value), (u8s b)[j]? = some u → cs[j]? = some u) (hgd : g ≠ d) :
    Calls Try.prog 31 #[.pointer (some ⟨d, 0, none⟩), .int .i64 x, .slice (some ⟨g, 0, none⟩) 64 c] w fun e w' => e = .returned (.int .i64 (wrtP D x b).1) ∧ Stp w0 w w' d D (wrtP D x b).2 := by
  by_cases hx : 0 ≤ x ∧ x < D.sure.length
  · obtain ⟨i, rfl⟩ : ∃ i : Nat, x = (i : Int) := ⟨x.toNat, by omega⟩
    have hi : i < D.sure.length := by omega
    by_cases hl : D.left = 0
    · have e : wrtP D (i : Int) b = (102, D) := by unfold wrtP; rw [if_neg (fun hn => hn hx), if_pos hl]
      rw [e]
      refine (ld_write_dead h i (some ⟨g, 0, none⟩) c hi hl).mono ?_
      rintro e w' ⟨rfl, rfl⟩
      exact ⟨rfl, Stp.refl h⟩
    · have e : wrtP D (i : Int) b = (0, D.wrote i b) := by unfold wrtP; rw [if_neg (fun hn => hn hx), if_neg hl, Int.toNat_natCast]
      rw [e]
      refine (ld_write3 h i g c t b cs hi hl hs hq hb hc hg hcs hgd).mono ?_
      rintro e w' ⟨rfl, h1, h2⟩
      exact ⟨rfl, h1, h2⟩
  · have e : wrtP D x b = (22, D) := by unfold wrtP; rw [if_pos hx]
    rw [e]
    refine (ld_write_no h x (some ⟨g, 0, none⟩) 64 c (.inl hx) (by decide)).mono ?_
    rintro e w' ⟨rfl, rfl⟩
    exact ⟨rfl, Stp.refl h⟩
theorem bar_stp (h : LD w0 w d D) (hs : D.steps < 1000000) :
    Calls Try.prog 44 #[.pointer (some ⟨d, 0, none⟩)] w fun e w' => e = .returned (.int .i64 (barP D).1) ∧ Stp w0 w w' d D (barP D).2 := by
  unfold barP
  by_cases hl : D.left = 0
  · rw [if_pos hl]
    refine (ld_barrier_dead h hl).mono ?_
    rintro e w' ⟨rfl, rfl⟩
    exact ⟨rfl, Stp.refl h⟩
  · rw [if_neg hl]
    refine (ld_barrier h hl hs).mono ?_
    rintro e w' ⟨rfl, h1, h2⟩
    exact ⟨rfl, h1, h2⟩
end
theorem u8s_atP {b : List UInt8} : ∀ (j : Nat) (u : Value), (u8s b)[j]? = some u → (u8s b).toArray[j]? = some u := fun j u h => by simpa using h

set_option maxHeartbeats 1000000 in
set_option maxRecDepth 100000 in
theorem wipe_any (w0 w : World) (d : Nat) (D : Dsk) (h : LD w0 w d D) (hs : D.steps < 900000) (hq : D.queue.length < 900000) :
    Calls Try.prog 27 #[.pointer (some ⟨d, 0, none⟩)] w fun r w' => r = .returned (.int .i64 (wipeP D).1) ∧ Stp w0 w w' d D (wipeP D).2 := by
  have H := hide h
  have HS := hide hs
  have HQ := hide hq
  have HNN := h.ok.n
  obtain ⟨S, hS⟩ : ∃ S, S = wipeP D := ⟨_, rfl⟩
  have HSV := hide (show S = _ from hS)
  rw [← hS]
  clear h hS hs hq
  have mk := mk_64
  go_enter Try.func27, Try.ntmps27
  go_wp2_with fail
  refine (ld_size H.out).mono ?_
  rintro r w3 ⟨rfl, rfl⟩
  by_cases h3 : D.sure.length < 3
  · have HR : Hid (S = (22, D)) := hide (by rw [HSV.out]; exact if_pos h3)
    have h3d : decide ((D.sure.length : Int) < 3) = true := decide_eq_true (by omega)
    clear h3
    go_wp2_with fail
    go_ret
    exact ⟨by rw [HR.out]; rfl, by rw [HR.out]; exact Stp.refl H.out⟩
  · have h3d : decide ((D.sure.length : Int) < 3) = false := decide_eq_false (by omega)
    have HS2 := hide (HSV.out.trans (if_neg h3))
    clear h3 HSV
    go_wp2_with fail
    clear h3d
    go_loopw [3] (fun x wr => ∃ (j : Nat) (E : Dsk), x = .int .i64 (j : Int) ∧ Stp w0 w wr d D E ∧ E.steps ≤ D.steps + 2 ∧ E.queue.length ≤ D.queue.length + 2 ∧ ((j = 1 ∧ E = D) ∨ (j = 2 ∧ wrtP D 1 zero64 = (0, E)) ∨ (j = 3 ∧ ∃ D1, wrtP D 1 zero64 = (0, D1) ∧ wrtP D1 2 zero64 = (0, E)))) (fun x _ => 3 - (intOf x).toNat)
    case atStart => exact ⟨1, D, rfl, Stp.refl H.out, by omega, by omega, .inl ⟨rfl, rfl⟩⟩
    case round =>
      obtain ⟨j, E, rfl, hst, n1, n2, hj⟩ := hrel
      have ST := hide hst
      have N1 := hide n1
      have N2 := hide n2
      have hE : E.steps < 1000000 ∧ E.queue.length < 1000000 := by have := HS.out; have := HQ.out; omega
      have HE := hide hE
      have hne := hide (show wr.heap.size ≠ d by have := hst.ld.lt; omega)
      clear hst n1 n2 hE
      rcases hj with ⟨rfl, he⟩ | ⟨rfl, he⟩ | ⟨rfl, he⟩
      · have HJ := hide he
        clear he
        go_wp2_with fail
        refine (wr_stp (ST.out.ld.alloc _) 1 wr.heap.size 64 _ zero64 _ HE.out.1 HE.out.2 rfl (Nat.le_refl _) (Blk.new wr _ _) u8s_atP hne.out).mono ?_
        rintro r w4 ⟨rfl, h4⟩
        have S4 := hide ((ST.out.below ((Below.refl _ _).alloc (Nat.le_refl _) _)).trans h4)
        have NU := hide (wrtP_num E 1 zero64)
        obtain ⟨R, hR⟩ : ∃ R, R = wrtP E 1 zero64 := ⟨_, rfl⟩
        rw [← hR] at S4 NU ⊢
        have HRE := hide hR
        clear hR h4 ST HE hne
        by_cases hc : R.1 = 0
        · rw [hc]
          have HR0 := hide (show wrtP D 1 zero64 = (0, R.2) from by rw [← HJ.out, ← HRE.out, ← hc])
          clear hc
          go_wp2_with fail
          go_roundw
          case rel => exact ⟨2, R.2, rfl, S4.out, by have := NU.out.1; have := N1.out; rw [HJ.out] at *; omega, by have := NU.out.2.1; rw [HJ.out] at *; omega, .inr (.inl ⟨rfl, HR0.out⟩)⟩
          case measure => simp [intOf]
        · have hcb : (R.1 != 0) = true := by rw [bne_iff_ne]; exact hc
          have HRR := hide (show S = R from by rw [HS2.out, ← HJ.out, ← HRE.out, if_pos hc])
          clear hc
          go_wp2_with fail
          go_ret
          exact ⟨by rw [HRR.out]; rfl, by rw [HRR.out]; exact S4.out⟩
      · have HJ := hide he
        clear he
        go_wp2_with fail
        refine (wr_stp (ST.out.ld.alloc _) 2 wr.heap.size 64 _ zero64 _ HE.out.1 HE.out.2 rfl (Nat.le_refl _) (Blk.new wr _ _) u8s_atP hne.out).mono ?_
        rintro r w4 ⟨rfl, h4⟩
        have S4 := hide ((ST.out.below ((Below.refl _ _).alloc (Nat.le_refl _) _)).trans h4)
        have NU := hide (wrtP_num E 2 zero64)
        have NV := hide (wrtP_num D 1 zero64)
        obtain ⟨R, hR⟩ : ∃ R, R = wrtP E 2 zero64 := ⟨_, rfl⟩
        rw [← hR] at S4 NU ⊢
        have HRE := hide hR
        clear hR h4 ST HE hne
        by_cases hc : R.1 = 0
        · rw [hc]
          have HR0 := hide (show wrtP E 2 zero64 = (0, R.2) from by rw [← HRE.out, ← hc])
          clear hc
          go_wp2_with fail
          go_roundw
          case rel => exact ⟨3, R.2, rfl, S4.out, by have h1 := NU.out.1; have h2 := NV.out.1; rw [HJ.out] at h2; have h2' : E.steps ≤ D.steps + 1 := h2; omega, by have h1 := NU.out.2.1; have h2 := NV.out.2.1; rw [HJ.out] at h2; have h2' : E.queue.length ≤ D.queue.length + 1 := h2; omega, .inr (.inr ⟨rfl, E, HJ.out, HR0.out⟩)⟩
          case measure => simp [intOf]
        · have hcb : (R.1 != 0) = true := by rw [bne_iff_ne]; exact hc
          have HRR := hide (show S = R from by rw [HS2.out, HJ.out]; show (if (0 : Int) ≠ 0 then _ else if (wrtP E 2 zero64).1 ≠ 0 then _ else _) = _; rw [if_neg (by decide), ← HRE.out, if_pos hc])
          clear hc
          go_wp2_with fail
          go_ret
          exact ⟨by rw [HRR.out]; rfl, by rw [HRR.out]; exact S4.out⟩
      · have HJ := hide he
        clear he
        go_wp2_with fail
        refine (bar_stp ST.out.ld HE.out.1).mono ?_
        rintro r w4 ⟨rfl, h4⟩
        have S4 := hide (ST.out.trans h4)
        have HRR := hide (show S = barP E from by
          obtain ⟨D1, h1, h2⟩ := HJ.out
          rw [HS2.out, h1]
          show (if (0 : Int) ≠ 0 then _ else if (wrtP D1 2 zero64).1 ≠ 0 then _ else _) = _
          rw [if_neg (by decide), h2]
          show (if (0 : Int) ≠ 0 then _ else _) = _
          rw [if_neg (by decide)])
        clear h4
        go_wp2_with fail
        go_ret
        exact ⟨by rw [HRR.out]; rfl, by rw [HRR.out]; exact S4.out⟩
end Go.Proofs.Ytfaingklglelnaa
