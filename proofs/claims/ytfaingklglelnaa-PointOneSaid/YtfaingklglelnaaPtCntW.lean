/- The walks over point.counts, Load. -/
import Derived.Test.YtfaingklglelnaaPtDecW
import Derived.Test.YtfaingklglelnaaDskLd
namespace Go.Proofs.Ytfaingklglelnaa
open Go.RowKit
attribute [local go_sem ↓] Go.wp_at_zero Go.wp_at_succ

def pt0 : Pt := ⟨0, 0, 0, 0⟩
/-- Is it newer? -/
def Pt.newer (p q : Pt) : Bool := newP p.e p.c q.e q.c
abbrev Pt.cells (p : Pt) : Array Value := ptC p.e p.c p.n p.f
/-- One block more is looked at. -/
def cntStep (i : Nat) (o : Option Pt) (st : Nat × Pt) : Nat × Pt := match o with
  | none => st
  | some p => if st.1 = 0 ∨ p.newer st.2 = true then (i, p) else st
def cntUp (D : Dsk) : Nat → Nat × Pt
  | 0 => (0, pt0)
  | k + 1 => cntStep (k + 1) (decP (D.read (k + 1))) (cntUp D k)
/-- The block of the point that counts, and that. -/
def countsP (D : Dsk) : Nat × Pt := if 2 < D.sure.length then cntUp D 2 else (0, pt0)
theorem cntUp_le (D : Dsk) : ∀ k, (cntUp D k).1 ≤ k
  | 0 => Nat.le_refl _
  | k + 1 => by
    have := cntUp_le D k
    unfold cntUp cntStep
    split
    · omega
    · split
      · exact Nat.le_refl _
      · omega
theorem decV_none {l : List UInt8} (h : decP l = none) : decV l = .tuple #[ptV 0 0 0 0, .int .i64 100] := by unfold decV; rw [h]
theorem decV_some {l : List UInt8} {p : Pt} (h : decP l = some p) : decV l = .tuple #[p.val, .int .i64 0] := by unfold decV; rw [h]
theorem by_blkL {w : World} {g : Nat} {t : TypeId} {l : List UInt8} (h : Blk w g t (u8s l).toArray) : By w (g + 1) (some ⟨g, 0, none⟩) l.length l := by
  have := sl_blk (i := 0) (m := (u8s l).length) h (by omega)
  rw [List.drop_zero, List.take_length, u8s_length] at this
  exact this
theorem ret_cnt {K : Ending → World → Prop} {tmps : Array Value} {w : World} {g : Nat} {a b c d : Int} {v : Value} (hp : tmps.getD 3 undef = .pointer (some ⟨g, 0, none⟩)) (hq : tmps.getD 2 undef = v) (hB : Blk w g 23 (ptC a b c d))
    (hK : K (.returned (.tuple #[v, ptV a b c d])) w) : bodyPost Try.prog Try.f43 K .ret ⟨tmps, []⟩ w :=
  bodyPost_ret (results_tc rfl tmps w g _ _ (0, 0) _ hp hB Try.underlying23 rfl (by kernel_rfl)) rfl (by rw [hq]; exact hK)

set_option maxHeartbeats 4000000 in
theorem counts_any (w0 w : World) (d : Nat) (D : Dsk) (h : LD w0 w d D) :
    Calls Try.prog 43 #[.pointer (some ⟨d, 0, none⟩)] w fun e w' => e = .returned (.tuple #[.int .i64 ((countsP D).1 : Int), (countsP D).2.val]) ∧ Below w.heap.size w w' := by
  have H := hide h
  have HN := hide h.ok.n
  clear h
  go_enter Try.func43, Try.ntmps43
  go_wp2_with fail
  have K3 := hide ((Blk.new w 23 pt0.cells).alloc (.cells #[.int .i64 0, .int .i64 0, .int .i64 0, .int .i64 0] 23))
  have K5 := Blk.new (w.alloc (.cells #[.int .i64 0, .int .i64 0, .int .i64 0, .int .i64 0] 23)) 23 pt0.cells
  rw [World.size_alloc] at K5
  have K5 := hide K5
  have B1 := hide (((Below.refl w.heap.size w).alloc (Nat.le_refl _) (.cells #[.int .i64 0, .int .i64 0, .int .i64 0, .int .i64 0] 23)).alloc (by simp) (.cells #[.int .i64 0, .int .i64 0, .int .i64 0, .int .i64 0] 23))
  have C3 : Hid (Blk ((w.alloc (.cells #[.int .i64 0, .int .i64 0, .int .i64 0, .int .i64 0] 23)).alloc (.cells #[.int .i64 0, .int .i64 0, .int .i64 0, .int .i64 0] 23)) w.heap.size 23 pt0.cells) := hide K3.out
  have C5 : Hid (Blk ((w.alloc (.cells #[.int .i64 0, .int .i64 0, .int .i64 0, .int .i64 0] 23)).alloc (.cells #[.int .i64 0, .int .i64 0, .int .i64 0, .int .i64 0] 23)) (w.heap.size + 1) 23 pt0.cells) := hide K5.out
  clear K3 K5
  generalize (w.alloc (.cells #[.int .i64 0, .int .i64 0, .int .i64 0, .int .i64 0] 23)).alloc (.cells #[.int .i64 0, .int .i64 0, .int .i64 0, .int .i64 0] 23) = w1 at *
  obtain ⟨g3, hg3⟩ : ∃ g, g = w.heap.size := ⟨_, rfl⟩
  have HG := hide hg3
  rw [← hg3] at C3 C5 ⊢
  clear hg3
  obtain ⟨g5, hg5⟩ : ∃ g, g = g3 + 1 := ⟨_, rfl⟩
  have hne := hide (show g3 ≠ g5 by omega)
  have HG5 := hide (show g3 ≤ g5 by omega)
  rw [← hg5] at C5 ⊢
  clear hg5
  by_cases hbig : 2 < D.sure.length
  · have hbd : decide ((2 : Int) < (D.sure.length : Int)) = true := decide_eq_true (by omega)
    have HBIG := hide hbig
    have HRES := hide (show countsP D = cntUp D 2 from if_pos hbig)
    go_loopw [4, 6] (fun at_ i wr => ∃ j : Nat, j ≤ 2 ∧ i = .int .i64 ((j + 1 : Nat) : Int) ∧ at_ = .int .i64 ((cntUp D j).1 : Int) ∧ Blk wr g3 23 pt0.cells ∧ Blk wr g5 23 (cntUp D j).2.cells ∧ Below w.heap.size w wr) (fun _ i _ => 3 - (intOf i).toNat)
    case atStart => exact ⟨0, by omega, rfl, rfl, C3.out, C5.out, B1.out⟩
    case round =>
      obtain ⟨j, hj, rfl, rfl, h3, h5, hb⟩ := hrel
      replace C3 := hide h3
      replace C5 := hide h5
      replace B1 := hide hb
      clear h3 h5 hb
      by_cases hlt : j < 2
      · obtain ⟨i, hi⟩ : ∃ i, i = j + 1 := ⟨_, rfl⟩
        rw [← hi]
        have HI := hide hi
        have hi2 : (i : Int) ≤ 2 := by omega
        have hwi : IntKind.i64.wrap ((i : Int) + 1) = ((i + 1 : Nat) : Int) := by rw [IntKind.wrap_i64]; omega
        have HNX : Hid (cntUp D i = cntStep i (decP (D.read i)) (cntUp D j)) := hide (by rw [hi]; rfl)
        have HJ := hide (cntUp_le D j)
        have HLT := hide hlt
        clear hi hlt
        go_wp2_with fail
        refine (ld_size (H.out.below (B1.out.mono (Nat.le_refl _)))).mono ?_
        rintro e w2 ⟨rfl, rfl⟩
        go_wp2_with fail
        refine (ld_read (H.out.below (B1.out.mono (Nat.le_refl _))) i (by have := HI.out; have := HLT.out; have := HBIG.out; omega)).mono ?_
        rintro e w2 ⟨g, rfl, hg, hk, hb⟩
        have HRL := hide (read_len (H.out.below (B1.out.mono (Nat.le_refl _))) i (by have := HI.out; have := HLT.out; have := HBIG.out; omega))
        replace C3 := hide (C3.out.below hb)
        replace C5 := hide (C5.out.below hb)
        replace B1 := hide (B1.out.trans (hb.mono B1.out.size))
        have KB := by_blkL hk
        rw [HRL.out] at KB
        have KB := hide KB
        have HGL := hide hk.lt
        clear hb hk hg
        go_wp2_with fail
        refine (dec_any _ 64 64 (g + 1) _ w2 KB.out HGL.out (by decide) (by decide)).mono ?_
        rintro e w3 ⟨rfl, hb⟩
        replace C3 := hide (C3.out.below hb)
        replace C5 := hide (C5.out.below hb)
        replace B1 := hide (B1.out.trans (hb.mono B1.out.size))
        clear hb KB HGL hbd
        obtain ⟨st, hst⟩ : ∃ st, st = cntUp D j := ⟨_, rfl⟩
        rw [← hst] at C5 HNX HJ ⊢
        clear hst
        obtain ⟨a, bp⟩ := st
        rcases ho : decP (D.read i) with _ | p
        · rw [ho] at HNX
          rw [decV_none ho]
          replace HNX : Hid (cntUp D i = (a, bp)) := hide HNX.out
          clear ho
          go_wp2_with fail
          go_roundw
          case rel => exact ⟨j + 1, by have := HLT.out; omega, by have := HI.out; rw [Value.int.injEq]; exact ⟨rfl, by omega⟩, by rw [← HI.out, HNX.out], C3.out.alloc _, by rw [← HI.out, HNX.out]; exact C5.out.alloc _, B1.out.alloc B1.out.size _⟩
          case measure => have := HI.out; have := HLT.out; simp [intOf]; omega
        · rw [ho] at HNX
          rw [decV_some ho]
          clear ho
          obtain ⟨pe, pc, pn, pf⟩ := p
          obtain ⟨be, bc, bn, bf⟩ := bp
          have C9 := hide (Blk.new w3 23 (ptC pe pc pn pf))
          replace C3 := hide (C3.out.alloc (.cells (ptC pe pc pn pf) 23))
          replace C5 : Hid (Blk _ g5 _ (ptC be bc bn bf)) := hide (C5.out.alloc (.cells (ptC pe pc pn pf) 23))
          replace B1 := hide (B1.out.alloc B1.out.size (.cells (ptC pe pc pn pf) 23))
          obtain ⟨c0, c1, c2, c3⟩ := ptb4 C5.out
          obtain ⟨f0, f1, f2, f3⟩ := blk4f C5.out
          obtain ⟨e0, e1, e2, e3⟩ := ptb4 C9.out
          by_cases ha : a = 0
          · subst ha
            replace HNX : Hid (cntUp D i = (i, ⟨pe, pc, pn, pf⟩)) := hide (by rw [HNX.out]; rfl)
            go_wp2_with fail
            go_region
            go_wp2_with fail
            go_roundw
            case rel => exact ⟨j + 1, by have := HLT.out; omega, by have := HI.out; rw [Value.int.injEq]; exact ⟨rfl, by omega⟩, by rw [← HI.out, HNX.out], (put4_far C3.out hne.out).drew, by rw [← HI.out, HNX.out]; exact (put4_blk C5.out).drew, (put4_bel B1.out (by rw [← HG.out]; exact HG5.out)).drew⟩
            case measure => have := HI.out; have := HLT.out; simp [intOf]; omega
          · have hat : ((a : Int) == 0) = false := by simp; omega
            go_wp2_with fail
            refine (newer_any pe pc pn pf be bc bn bf _).mono ?_
            rintro e w4 ⟨rfl, hb⟩
            replace C3 := hide (C3.out.below hb)
            replace C5 := hide (C5.out.below hb)
            replace C9 := hide (C9.out.below hb)
            replace B1 := hide (B1.out.trans (hb.mono B1.out.size))
            clear c0 c1 c2 c3 f0 f1 f2 f3 e0 e1 e2 e3 hb
            by_cases hn : newP pe pc be bc = true
            · replace HNX : Hid (cntUp D i = (i, ⟨pe, pc, pn, pf⟩)) := hide (HNX.out.trans (if_pos (.inr hn)))
              rw [hn]
              clear hn
              obtain ⟨c0, c1, c2, c3⟩ := ptb4 C5.out
              obtain ⟨f0, f1, f2, f3⟩ := blk4f C5.out
              obtain ⟨e0, e1, e2, e3⟩ := ptb4 C9.out
              generalize w3.heap.size = g9 at *
              go_wp2_with fail
              go_region
              go_wp2_with fail
              go_roundw
              case rel => exact ⟨j + 1, by have := HLT.out; omega, by have := HI.out; rw [Value.int.injEq]; exact ⟨rfl, by omega⟩, by rw [← HI.out, HNX.out], (put4_far C3.out hne.out).drew, by rw [← HI.out, HNX.out]; exact (put4_blk C5.out).drew, (put4_bel B1.out (by rw [← HG.out]; exact HG5.out)).drew⟩
              case measure => have := HI.out; have := HLT.out; simp [intOf]; omega
            · replace HNX : Hid (cntUp D i = (a, ⟨be, bc, bn, bf⟩)) := hide (HNX.out.trans (if_neg (by rintro (h | h); exact ha h; exact hn h)))
              rw [Bool.not_eq_true] at hn
              rw [hn]
              clear hn
              go_wp2_with fail
              go_roundw
              case rel => exact ⟨j + 1, by have := HLT.out; omega, by have := HI.out; rw [Value.int.injEq]; exact ⟨rfl, by omega⟩, by rw [← HI.out, HNX.out], C3.out, by rw [← HI.out, HNX.out]; exact C5.out, B1.out⟩
              case measure => have := HI.out; have := HLT.out; simp [intOf]; omega
      · have hj2 : j = 2 := by omega
        subst hj2
        have HR2 := hide HRES.out
        obtain ⟨st, hst⟩ : ∃ st, st = cntUp D 2 := ⟨_, rfl⟩
        rw [← hst] at C5 HR2 ⊢
        clear hst hlt
        obtain ⟨a, be, bc, bn, bf⟩ := st
        replace C5 : Hid (Blk _ g5 _ (ptC be bc bn bf)) := hide C5.out
        obtain ⟨c0, c1, c2, c3⟩ := ptb4 C3.out
        obtain ⟨f0, f1, f2, f3⟩ := blk4f C3.out
        obtain ⟨e0, e1, e2, e3⟩ := ptb4 C5.out
        go_wp2_with fail
        go_region
        go_wp2_with fail
        exact ret_cnt rfl rfl (put4_blk C3.out).drew ⟨by rw [HR2.out]; rfl, (put4_bel B1.out (by rw [HG.out]; exact Nat.le_refl _)).drew⟩
  · have hbd : decide ((2 : Int) < (D.sure.length : Int)) = false := decide_eq_false (by omega)
    have HR2 := hide (show countsP D = (0, pt0) from if_neg hbig)
    clear hbig
    go_loopw [4, 6] (fun at_ i wr => i = .int .i64 1 ∧ at_ = .int .i64 0 ∧ wr = w1) (fun _ i _ => 3 - (intOf i).toNat)
    case atStart => exact ⟨rfl, rfl, rfl⟩
    case round =>
      obtain ⟨rfl, rfl, rfl⟩ := hrel
      go_wp2_with fail
      refine (ld_size (H.out.below B1.out)).mono ?_
      rintro e w2 ⟨rfl, rfl⟩
      replace C5 : Hid (Blk _ g5 _ (ptC (0 : Nat) (0 : Nat) (0 : Nat) (0 : Nat))) := hide C5.out
      obtain ⟨c0, c1, c2, c3⟩ := ptb4 C3.out
      obtain ⟨f0, f1, f2, f3⟩ := blk4f C3.out
      obtain ⟨e0, e1, e2, e3⟩ := ptb4 C5.out
      go_wp2_with fail
      go_region
      go_wp2_with fail
      exact ret_cnt rfl rfl (put4_blk C3.out).drew ⟨by rw [HR2.out]; rfl, (put4_bel B1.out (by rw [HG.out]; exact Nat.le_refl _)).drew⟩

theorem ret_load {K : Ending → World → Prop} {tmps : Array Value} {w : World} {g : Nat} {a b c d : Int} {v : Value} (hp : tmps.getD 2 undef = .pointer (some ⟨g, 0, none⟩)) (hq : tmps.getD 3 undef = v) (hB : Blk w g 23 (ptC a b c d))
    (hK : K (.returned (.tuple #[ptV a b c d, v])) w) : bodyPost Try.prog Try.f21 K .ret ⟨tmps, []⟩ w :=
  bodyPost_ret (results_ct rfl tmps w g _ _ (0, 0) _ hp hB Try.underlying23 rfl (by kernel_rfl)) rfl (by rw [hq]; exact hK)
set_option maxHeartbeats 4000000 in
theorem load_any (w0 w : World) (d : Nat) (D : Dsk) (h : LD w0 w d D) :
    Calls Try.prog 21 #[.pointer (some ⟨d, 0, none⟩)] w fun e w' => e = .returned (.tuple #[(countsP D).2.val, .bool (decide (0 < (countsP D).1))]) ∧ Below w.heap.size w w' := by
  have H := hide h
  clear h
  go_enter Try.func21, Try.ntmps21
  go_wp2_with fail
  have C2 : Hid (Blk (w.alloc (.cells #[.int .i64 0, .int .i64 0, .int .i64 0, .int .i64 0] 23)) w.heap.size 23 pt0.cells) := hide (Blk.new w 23 pt0.cells)
  have B1 := hide ((Below.refl w.heap.size w).alloc (Nat.le_refl _) (.cells #[.int .i64 0, .int .i64 0, .int .i64 0, .int .i64 0] 23))
  generalize w.alloc (.cells #[.int .i64 0, .int .i64 0, .int .i64 0, .int .i64 0] 23) = w1 at *
  refine (counts_any _ _ _ _ (H.out.below B1.out)).mono ?_
  rintro e w2 ⟨rfl, hb⟩
  obtain ⟨st, hst⟩ : ∃ st, st = countsP D := ⟨_, rfl⟩
  rw [← hst]
  have HST := hide hst
  clear hst
  obtain ⟨a, be, bc, bn, bf⟩ := st
  replace C2 := hide ((C2.out.below hb).alloc (.cells (ptC be bc bn bf) 23))
  have C5 := hide (Blk.new w2 23 (ptC be bc bn bf))
  replace B1 := hide ((B1.out.trans (hb.mono B1.out.size)).alloc (Nat.le_trans B1.out.size hb.size) (.cells (ptC be bc bn bf) 23))
  clear hb
  obtain ⟨c0, c1, c2, c3⟩ := ptb4 C2.out
  obtain ⟨f0, f1, f2, f3⟩ := blk4f C2.out
  obtain ⟨e0, e1, e2, e3⟩ := ptb4 C5.out
  go_wp2_with fail
  exact ret_load rfl rfl (put4_blk C2.out) ⟨by rw [← HST.out]; rfl, put4_bel B1.out (Nat.le_refl _)⟩
end Go.Proofs.Ytfaingklglelnaa
