/- The walk over disk.Crash. -/
import Derived.Test.YtpcaaobninnkaaaDskCrS
namespace Go.Proofs.Ytpcaaobninnkaaa
open Go.RowKit

set_option maxRecDepth 100000 in
theorem wrA (m lo : Nat) (hm : m < 4) (h : lo = m * 16) : IntKind.i64.wrap ((m : Int) * 16) = (lo : Int) := by
  subst h
  match m, hm with
  | 0, _ => rfl
  | 1, _ => rfl
  | 2, _ => rfl
  | 3, _ => rfl
set_option maxRecDepth 100000 in
theorem wrB (m hi : Nat) (hm : m < 4) (h : hi = m * 16 + 16) : IntKind.i64.wrap (IntKind.i64.wrap ((m : Int) + 1) * 16) = (hi : Int) := by
  subst h
  match m, hm with
  | 0, _ => rfl
  | 1, _ => rfl
  | 2, _ => rfl
  | 3, _ => rfl
/-- The cut of an array, kept whole in a walk. -/
def sliceAtK_crash_any (t : TypeId) (v : Value) (l h m : Option Value) : Sem Value := Instr.sliceAt t v l h m
theorem sliceAtK_crash_any_keep (t : TypeId) (v : Value) (l h m : Option Value) : Instr.sliceAt t v l h m = sliceAtK_crash_any t v l h m := rfl
set_option maxRecDepth 100000 in
theorem cut_lh (w : World) (b o l h : Nat) (hl : l ≤ h) (hh : h ≤ 64) (h1 : l < 64) (r : Nat) (hr : h - l = r) : (sliceAtK_crash_any 67 (.pointer (some ⟨b, o, none⟩)) (some (.int .i64 (l : Int))) (some (.int .i64 (h : Int))) none).run Try.prog w = .ok (.slice (some ⟨b, o + l, none⟩) r (64 - l)) w := by
  unfold sliceAtK_crash_any
  subst hr
  have ht : Try.prog.underlying 67 = some (.array (Try.prog.arrayLen 67) (Try.prog.elem 67)) := by kernel_rfl
  have ha : Try.prog.arrayLen 67 = 64 := by kernel_rfl
  have hs : (sizeOf (Try.prog.elem 67)).run Try.prog w = .ok 1 w := Try.sizeOf5 w
  rw [run_sliceAt_array_lh w 67 _ ht .i64 .i64 (l : Int) (h : Int) (by omega) (by omega) (by rw [ha]; omega), hs, ha]
  simp only [Result.andThen_ok, slicedAt, Int.toNat_natCast]
  rw [if_neg (by omega), Nat.mul_one, Addr.add_mid]
set_option maxRecDepth 100000 in
theorem cut_l (w : World) (b o l : Nat) (h1 : l < 64) : (sliceAtK_crash_any 67 (.pointer (some ⟨b, o, none⟩)) (some (.int .i64 (l : Int))) none none).run Try.prog w = .ok (.slice (some ⟨b, o + l, none⟩) (64 - l) (64 - l)) w := by
  unfold sliceAtK_crash_any
  have ht : Try.prog.underlying 67 = some (.array (Try.prog.arrayLen 67) (Try.prog.elem 67)) := by kernel_rfl
  have ha : Try.prog.arrayLen 67 = 64 := by kernel_rfl
  have hs : (sizeOf (Try.prog.elem 67)).run Try.prog w = .ok 1 w := Try.sizeOf5 w
  rw [run_sliceAt_array_l w 67 _ ht .i64 (l : Int) (by omega) (by rw [ha]; omega), hs, ha]
  simp only [Result.andThen_ok, slicedAt, Int.toNat_natCast]
  rw [if_neg (by omega), Nat.mul_one, Addr.add_mid]
/-- Is this sector of the torn write kept? -/
def bitS (sectors : Int) (t : Nat) : Bool := bits BinOp.and IntKind.i64 (sectors / 2 ^ t) 1 == 1
def crashF (keep : List Bool) (torn sectors : Int) (j t : Nat) : Bool := keep.getD j false || ((j : Int) == torn && bitS sectors t)
/-- The disk behind a crash. -/
def Dsk.crashed (D : Dsk) (f : Nat → Nat → Bool) (cap : Nat) (pad : Array Value) : Dsk := ⟨crashN f D.queue D.queue.length D.sure, [], 0, -1, cap, pad⟩

set_option maxRecDepth 100000 in
theorem crash_end {w wr : World} {g cd cap j : Nat} {pad : Array Value} {D : Dsk} {f : Nat → Nat → Bool} (G1 : Blk wr cd 65 #[.slice (some ⟨g, 0, none⟩) D.sure.length cap, .slice none 0 0, .int .i64 0, .int .i64 (-1)])
    (G2 : Blk wr g 67 (sureC (crashN f D.queue j D.sure) ++ pad)) (G3 : Below w.heap.size w wr) (h1 : w.heap.size ≤ g) (h2 : w.heap.size ≤ cd) (hgd : g ≠ cd) (hj : j = D.queue.length) (h64 : All64 D.sure.length D.sure) (hq : ∀ x ∈ D.queue, x.2.length = 64 ∧ x.1 < D.sure.length) (hn : D.sure.length ≤ 4096) :
    DskA wr w.heap.size cd g (.slice none 0 0) (D.crashed f cap pad) ∧ Below w.heap.size w wr := by
  subst hj
  have h := crashN_64 (f := f) h64 hq D.queue.length (Nat.le_refl _)
  have hl : (D.crashed f cap pad).sure.length = D.sure.length := h.1
  refine ⟨⟨?_, G2, ⟨rfl, .inl ⟨rfl, rfl⟩⟩, hgd.symm, (fun x hx => by cases hx), h2, h1, ⟨h.2, (fun x hx => by cases hx), (by rw [hl]; exact hn), ⟨Int.le_refl _, (by show (-1 : Int) ≤ 9223372036854775807; decide)⟩, Nat.zero_le _, Nat.zero_le _⟩⟩, G3⟩
  rw [hl]
  exact G1

/-- Sizes and zero values, kept whole in a walk. -/
def szK_crash_any : Sem Nat := sizeOf 67
theorem szK_crash_any_keep : sizeOf 67 = szK_crash_any := rfl
def zvK_crash_any : Sem Value := zeroValue 67
theorem zvK_crash_any_keep : zeroValue 67 = zvK_crash_any := rfl
def szL_crash_any : Sem Nat := sizeOf 69
theorem szL_crash_any_keep : sizeOf 69 = szL_crash_any := rfl
attribute [local go_sem ↓] szK_crash_any_keep zvK_crash_any_keep szL_crash_any_keep in
attribute [local go_sem ↓] sliceAtK_crash_any_keep in
set_option maxHeartbeats 1000000 in
set_option maxRecDepth 100000 in
theorem crash_any (w : World) (base d s : Nat) (v : Value) (D : Dsk) (h : DskA w base d s v D) (h1 : 1 ≤ D.sure.length) (B : Nat) (A : Option Addr) (n c : Nat) (keep : List Bool) (hkp : Sl w B A n (keep.map Value.bool)) (hB : B ≤ w.heap.size) (hkn : n ≤ 9223372036854775807) (torn sectors : Int) :
    Calls Try.prog 18 #[.pointer (some ⟨d, 0, none⟩), .slice A n c, .int .i64 torn, .int .i64 sectors] w fun e w' => ∃ (d' s' cap : Nat) (pad : Array Value), e = .returned (.pointer (some ⟨d', 0, none⟩)) ∧ DskA w' w.heap.size d' s' (.slice none 0 0) (D.crashed (crashF keep torn sectors) cap pad) ∧ Below w.heap.size w w' := by
  obtain ⟨c0, c1, c2, c3, f1, f2, f3⟩ := dsk_cells h
  have kz' := wr_zero
  obtain ⟨k, hk⟩ : ∃ k, k = 64 := ⟨_, rfl⟩
  have ks : ∀ w, szK_crash_any.run Try.prog w = .ok k w := fun w => by rw [hk]; exact Try.sizeOf67 w
  obtain ⟨k', hk'⟩ : ∃ k, k = 65 := ⟨_, rfl⟩
  have ks' : ∀ w, szL_crash_any.run Try.prog w = .ok k' w := fun w => by rw [hk']; exact Try.sizeOf69 w
  have hk0 : ¬ k = 0 := by omega
  have K := hide (And.intro hk hk')
  have H := hide h
  have hn := h.ok.n
  have hqn := h.ok.qn
  have hq := hide h.ok.q
  obtain ⟨AQ, cQ, rfl, hA⟩ := dsk_slice h
  have HA := hide hA
  have HK := hide hkp
  clear hk hk' h hA hkp
  go_enter Try.func18, Try.ntmps18
  go_wp2_with fail
  refine (clone_any w s _ D.sure D.pad H.out.hs H.out.ok.b h1 hn).mono ?_
  rintro e w1 ⟨g, cap, pad', rfl, hg, hBg, hbl⟩
  have c1' : (w1.alloc (.cells #[.slice (some ⟨g, 0, none⟩) D.sure.length cap, .slice none 0 0, .int .i64 0, .int .i64 (-1)] 65)).cell? ⟨d, 1, none⟩ = some (.slice AQ D.queue.length cQ) := ((H.out.hd.below hbl).alloc _).cell 1
  have hBd := hide (Blk.new w1 65 #[.slice (some ⟨g, 0, none⟩) D.sure.length cap, .slice none 0 0, .int .i64 0, .int .i64 (-1)])
  have hBg' := hide (hBg.alloc (.cells #[.slice (some ⟨g, 0, none⟩) D.sure.length cap, .slice none 0 0, .int .i64 0, .int .i64 (-1)] 65))
  have hbl' := hide (hbl.alloc hbl.size (.cells #[.slice (some ⟨g, 0, none⟩) D.sure.length cap, .slice none 0 0, .int .i64 0, .int .i64 (-1)] 65))
  have hg1 := hide hg
  have hgd : Hid (g ≠ w1.heap.size) := hide (by have := hBg.lt; omega)
  have hdw : Hid (w.heap.size ≤ w1.heap.size) := hide hbl.size
  have h64 : Hid (All64 D.sure.length D.sure) := hide ⟨rfl, H.out.ok.b⟩
  clear hg hBg hbl
  go_wp2_with fail
  clear c1' c1 c0 c2 c3 f1 f2 f3
  generalize w1.heap.size = cd at *
  go_loopw [26] (fun x wr => ∃ j : Nat, j ≤ D.queue.length ∧ x = .int .i64 (j : Int) ∧ Blk wr cd 65 #[.slice (some ⟨g, 0, none⟩) D.sure.length cap, .slice none 0 0, .int .i64 0, .int .i64 (-1)] ∧ Blk wr g 67 (sureC (crashN (crashF keep torn sectors) D.queue j D.sure) ++ pad') ∧ Below w.heap.size w wr) (fun x _ => D.queue.length - (intOf x).toNat)
  case atStart => exact ⟨0, Nat.zero_le _, rfl, hBd.out, hBg'.out, hbl'.out⟩
  case round =>
    obtain ⟨j, hj, rfl, g1, g2, g3⟩ := hrel
    have G1 := hide g1
    have G2 := hide g2
    have G3 := hide g3
    clear g1 g2 g3
    by_cases hlt : j < D.queue.length
    · obtain ⟨x, hx⟩ : ∃ x, D.queue[j]? = some x := ⟨_, List.getElem?_eq_getElem hlt⟩
      obtain ⟨hxl, hxs⟩ := hq.out x (List.mem_of_getElem? hx)
      have Dr := dsk_kp H.out (Kp.of_below (gs := []) G3.out) (by simp) (by simp) (by simp)
      obtain ⟨gq, hAg, -⟩ := HA.out j x hx
      subst hAg
      obtain ⟨g', c', e, hr⟩ := at_queue Dr j x hx
      injection e with e1 e2 e3
      injection e1 with e1
      injection e1 with e1
      subst e1
      clear e2 e3
      obtain ⟨hk, hk'⟩ := K.out
      have hwl : (wrC x).length = k' := by rw [wrC, List.length_cons, u8s_length, hxl, hk']
      have k3 := ld_mid wr gq (j * k') k' _ hwl (by rw [hk']; exact hr)
      have k4 := st_wr wr x (0, zero64) hxl (by unfold zero64; rw [List.length_replicate])
      have hst := hide (crashN_step (crashF keep torn sectors) D.queue j D.sure x hx)
      have hN := hide (crashN_64 (f := crashF keep torn sectors) h64.out hq.out j hj)
      have P1 := hide (G1.out.alloc (.cells (wrC x).toArray 69))
      have P2 := hide (G2.out.alloc (.cells (wrC x).toArray 69))
      have P3 := hide (G3.out.alloc G3.out.size (.cells (wrC x).toArray 69))
      have P4 := hide (Blk.new wr 69 (wrC x).toArray)
      have hgl := hide G2.out.lt
      have hcl := hide G1.out.lt
      have hwr := hide G3.out.size
      clear hk hk' Dr hr hx G1 G2 G3
      by_cases hjk : j < n
      · have hlk : j < keep.length := by have := HK.out.len; rw [List.length_map] at this; omega
        obtain ⟨ad, u, hA', hadb, hu, hcu⟩ := (HK.out.below (P3.out.mono hB)).get hjk
        rw [List.getElem?_map, List.getElem?_eq_getElem hlk] at hu
        simp only [Option.map_some, Option.some.injEq] at hu
        subst hu
        obtain ⟨kb, hkb⟩ : ∃ kb, keep.getD j false = kb := ⟨_, rfl⟩
        have hke : keep[j] = kb := by rw [← hkb, List.getD_eq_getElem?_getD, List.getElem?_eq_getElem hlk]; rfl
        rw [hke] at hcu
        replace hkb := hide hkb
        clear hke
        subst hA'
        go_wp2_with fail
        clear hcu k4 k3
        generalize wr.heap.size = gw at *
        go_loopw [41] (fun y wx => ∃ m : Nat, m ≤ 4 ∧ y = .int .i64 (m : Int) ∧ Blk wx cd 65 #[.slice (some ⟨g, 0, none⟩) D.sure.length cap, .slice none 0 0, .int .i64 0, .int .i64 (-1)] ∧ Blk wx g 67 (sureC (crash1 (crashF keep torn sectors j) x m (crashN (crashF keep torn sectors) D.queue j D.sure)) ++ pad') ∧ Blk wx gw 69 (wrC x).toArray ∧ Below w.heap.size w wx) (fun y _ => 4 - (intOf y).toNat)
        case atStart => exact ⟨0, Nat.zero_le _, rfl, P1.out, P2.out, P4.out, P3.out⟩
        case round =>
          obtain ⟨m, hm4, rfl, g1, g2, g3, g4⟩ := hrel
          have R1 := hide g1
          have R2 := hide g2
          have R3 := hide g3
          have R4 := hide g4
          clear g1 g2 g3 g4
          by_cases hm : m < 4
          · have hcr := crash1_step (crashF keep torn sectors j) x m (crashN (crashF keep torn sectors) D.queue j D.sure)
            have hcf : crashF keep torn sectors j m = (kb || ((j : Int) == torn && bitS sectors m)) := by unfold crashF; rw [hkb.out]
            rw [hcf] at hcr
            replace hcr := hide hcr
            clear hcf
            have r1 : wr.cell? ⟨cd, 0, none⟩ = some (.slice (some ⟨g, 0, none⟩) D.sure.length cap) := R1.out.cell 0
            have r2 : wr.cell? ⟨gw, 0, none⟩ = some (.int .i64 (x.1 : Int)) := R3.out.cell 0
            have hm3 := hide hm
            obtain ⟨lo, hlo⟩ : ∃ lo, lo = m * 16 := ⟨_, rfl⟩
            obtain ⟨hi, hhi⟩ : ∃ hi, hi = m * 16 + 16 := ⟨_, rfl⟩
            have s1 := hide (fun W => cut_lh W g (x.1 * k) lo hi (by omega) (by omega) (by omega) 16 (by omega))
            have s2 := hide (fun W => cut_l W gw 1 lo (by omega))
            have wa := wrA m lo hm hlo
            have wb := wrB m hi hm hhi
            replace s1 := s1.out
            replace s2 := s2.out
            replace hlo := hide hlo
            clear hhi
            have hsz : (Try.prog.info? 5).map (·.size) = some 1 := by kernel_rfl
            have hC := hide (crash1_64 (f := crashF keep torn sectors j) hN.out hxl hxs m (by omega))
            have hcl2 : Hid ((u8s (sect x.2 m)).length = Nat.min (64 - lo) 16) := hide (by rw [u8s_length, sect_len _ _ hxl hm]; have := hlo.out; show 16 = min (64 - lo) 16; omega)
            have hsrc := hide (sect_src R3.out m lo hlo.out)
            have hfit : Hid (x.1 * k + lo + (u8s (sect x.2 m)).length ≤ (sureC (crash1 (crashF keep torn sectors j) x m (crashN (crashF keep torn sectors) D.queue j D.sure)) ++ pad').size) := hide (by
              rw [u8s_length, sect_len _ _ hxl hm, Array.size_append, sureC_size _ hC.out.2, hC.out.1, K.out.1, hlo.out]; omega)
            have hgw : Hid (g ≠ gw) := hide (by have := hgl.out; omega)
            replace hcr := hcr.out
            cases kb
            · by_cases ht : (j : Int) = torn
              · subst ht
                rw [beq_self_eq_true, Bool.false_or, Bool.true_and] at hcr
                by_cases hb : bitS sectors m = true
                · rw [if_pos hb] at hcr
                  replace hcr := hide hcr
                  unfold bitS at hb
                  go_wp2_with fail
                  go_region_law (
                    (refine step_copy_row rfl (.tmp 69) (.tmp 73) _ _ rfl 5 Try.underlying22 hsz _ _ _ _ _ _ (by rfl) (by rfl) g (x.1 * k + lo) (sureC (crash1 (crashF keep (j : Int) sectors j) x m (crashN (crashF keep (j : Int) sectors) D.queue j D.sure)) ++ pad') 67 R2.out.drew (u8s (sect x.2 m)) ⟨gw, 1 + lo, none⟩ rfl rfl hcl2.out hsrc.out hfit.out (u8s_one _) ?_
                     intro w2 hw2
                     clear wa wb s1 s2 r1 r2))
                  all_goals
                    go_wp2_with fail
                    obtain ⟨q1, q2, q3, q4⟩ := copied R1.out R2.out R3.out R4.out hg1.out hgd.out hgw.out (by rw [K.out.1, hlo.out]) hw2.out hC.out hxl hxs hm3.out
                    rw [← hcr.out] at q2
                    go_roundw
                    case rel =>
                      exact ⟨m + 1, by omega, by go_num, q1, q2, q3, q4⟩
                    case measure => simp [intOf]; omega
                · rw [if_neg hb] at hcr
                  replace hcr := hide hcr
                  unfold bitS at hb
                  go_wp2_with fail
                  have q2 := R2.out
                  rw [← hcr.out] at q2
                  go_roundw
                  case rel =>
                    exact ⟨m + 1, by omega, by go_num, R1.out, q2, R3.out, R4.out⟩
                  case measure => simp [intOf]; omega
              · rw [Bool.false_or, beq_eq_false_iff_ne.2 ht, Bool.false_and, if_neg (by decide)] at hcr
                replace hcr := hide hcr
                go_wp2_with fail
                have q2 := R2.out
                rw [← hcr.out] at q2
                go_roundw
                case rel =>
                  exact ⟨m + 1, by omega, by go_num, R1.out, q2, R3.out, R4.out⟩
                case measure => simp [intOf]; omega
            · rw [Bool.true_or, if_pos rfl] at hcr
              replace hcr := hide hcr
              go_wp2_with fail
              go_region_law (
                (refine step_copy_row rfl (.tmp 69) (.tmp 73) _ _ rfl 5 Try.underlying22 hsz _ _ _ _ _ _ (by rfl) (by rfl) g (x.1 * k + lo) (sureC (crash1 (crashF keep torn sectors j) x m (crashN (crashF keep torn sectors) D.queue j D.sure)) ++ pad') 67 R2.out.drew (u8s (sect x.2 m)) ⟨gw, 1 + lo, none⟩ rfl rfl hcl2.out hsrc.out hfit.out (u8s_one _) ?_
                 intro w2 hw2
                 clear wa wb s1 s2 r1 r2))
              all_goals
                go_wp2_with fail
                obtain ⟨q1, q2, q3, q4⟩ := copied R1.out R2.out R3.out R4.out hg1.out hgd.out hgw.out (by rw [K.out.1, hlo.out]) hw2.out hC.out hxl hxs hm3.out
                rw [← hcr.out] at q2
                go_roundw
                case rel =>
                  exact ⟨m + 1, by omega, by go_num, q1, q2, q3, q4⟩
                case measure => simp [intOf]; omega
          · have hm4' : m = 4 := by omega
            subst hm4'
            have R2' : Hid (Blk wr g 67 (sureC (crashN (crashF keep torn sectors) D.queue (j + 1) D.sure) ++ pad')) := by
              rw [hst.out]; exact R2
            clear R2
            go_wp2_with fail
            go_roundw
            case rel => exact ⟨j + 1, by omega, by go_num, R1.out, R2'.out, R4.out⟩
            case measure => simp [intOf]; omega
      · have hkb : Hid (keep.getD j false = false) := hide (by
          have hl := HK.out.len
          rw [List.length_map] at hl
          rw [List.getD_eq_getElem?_getD, List.getElem?_eq_none (by omega)]; rfl)
        go_wp2_with fail
        clear k4 k3
        generalize wr.heap.size = gw at *
        go_loopw [41] (fun y wx => ∃ m : Nat, m ≤ 4 ∧ y = .int .i64 (m : Int) ∧ Blk wx cd 65 #[.slice (some ⟨g, 0, none⟩) D.sure.length cap, .slice none 0 0, .int .i64 0, .int .i64 (-1)] ∧ Blk wx g 67 (sureC (crash1 (crashF keep torn sectors j) x m (crashN (crashF keep torn sectors) D.queue j D.sure)) ++ pad') ∧ Blk wx gw 69 (wrC x).toArray ∧ Below w.heap.size w wx) (fun y _ => 4 - (intOf y).toNat)
        case atStart => exact ⟨0, Nat.zero_le _, rfl, P1.out, P2.out, P4.out, P3.out⟩
        case round =>
          obtain ⟨m, hm4, rfl, g1, g2, g3, g4⟩ := hrel
          have R1 := hide g1
          have R2 := hide g2
          have R3 := hide g3
          have R4 := hide g4
          clear g1 g2 g3 g4
          by_cases hm : m < 4
          · have hcr := crash1_step (crashF keep torn sectors j) x m (crashN (crashF keep torn sectors) D.queue j D.sure)
            have hcf : crashF keep torn sectors j m = (false || ((j : Int) == torn && bitS sectors m)) := by unfold crashF; rw [hkb.out]
            rw [hcf] at hcr
            replace hcr := hide hcr
            clear hcf
            have r1 : wr.cell? ⟨cd, 0, none⟩ = some (.slice (some ⟨g, 0, none⟩) D.sure.length cap) := R1.out.cell 0
            have r2 : wr.cell? ⟨gw, 0, none⟩ = some (.int .i64 (x.1 : Int)) := R3.out.cell 0
            have hm3 := hide hm
            obtain ⟨lo, hlo⟩ : ∃ lo, lo = m * 16 := ⟨_, rfl⟩
            obtain ⟨hi, hhi⟩ : ∃ hi, hi = m * 16 + 16 := ⟨_, rfl⟩
            have s1 := hide (fun W => cut_lh W g (x.1 * k) lo hi (by omega) (by omega) (by omega) 16 (by omega))
            have s2 := hide (fun W => cut_l W gw 1 lo (by omega))
            have wa := wrA m lo hm hlo
            have wb := wrB m hi hm hhi
            replace s1 := s1.out
            replace s2 := s2.out
            replace hlo := hide hlo
            clear hhi
            have hsz : (Try.prog.info? 5).map (·.size) = some 1 := by kernel_rfl
            have hC := hide (crash1_64 (f := crashF keep torn sectors j) hN.out hxl hxs m (by omega))
            have hcl2 : Hid ((u8s (sect x.2 m)).length = Nat.min (64 - lo) 16) := hide (by rw [u8s_length, sect_len _ _ hxl hm]; have := hlo.out; show 16 = min (64 - lo) 16; omega)
            have hsrc := hide (sect_src R3.out m lo hlo.out)
            have hfit : Hid (x.1 * k + lo + (u8s (sect x.2 m)).length ≤ (sureC (crash1 (crashF keep torn sectors j) x m (crashN (crashF keep torn sectors) D.queue j D.sure)) ++ pad').size) := hide (by
              rw [u8s_length, sect_len _ _ hxl hm, Array.size_append, sureC_size _ hC.out.2, hC.out.1, K.out.1, hlo.out]; omega)
            have hgw : Hid (g ≠ gw) := hide (by have := hgl.out; omega)
            replace hcr := hcr.out
            by_cases ht : (j : Int) = torn
            · subst ht
              rw [beq_self_eq_true, Bool.false_or, Bool.true_and] at hcr
              by_cases hb : bitS sectors m = true
              · rw [if_pos hb] at hcr
                replace hcr := hide hcr
                unfold bitS at hb
                go_wp2_with fail
                go_region_law (
                  (refine step_copy_row rfl (.tmp 69) (.tmp 73) _ _ rfl 5 Try.underlying22 hsz _ _ _ _ _ _ (by rfl) (by rfl) g (x.1 * k + lo) (sureC (crash1 (crashF keep (j : Int) sectors j) x m (crashN (crashF keep (j : Int) sectors) D.queue j D.sure)) ++ pad') 67 R2.out.drew (u8s (sect x.2 m)) ⟨gw, 1 + lo, none⟩ rfl rfl hcl2.out hsrc.out hfit.out (u8s_one _) ?_
                   intro w2 hw2
                   clear wa wb s1 s2 r1 r2))
                all_goals
                  go_wp2_with fail
                  obtain ⟨q1, q2, q3, q4⟩ := copied R1.out R2.out R3.out R4.out hg1.out hgd.out hgw.out (by rw [K.out.1, hlo.out]) hw2.out hC.out hxl hxs hm3.out
                  rw [← hcr.out] at q2
                  go_roundw
                  case rel =>
                    exact ⟨m + 1, by omega, by go_num, q1, q2, q3, q4⟩
                  case measure => simp [intOf]; omega
              · rw [if_neg hb] at hcr
                replace hcr := hide hcr
                unfold bitS at hb
                go_wp2_with fail
                have q2 := R2.out
                rw [← hcr.out] at q2
                go_roundw
                case rel =>
                  exact ⟨m + 1, by omega, by go_num, R1.out, q2, R3.out, R4.out⟩
                case measure => simp [intOf]; omega
            · rw [Bool.false_or, beq_eq_false_iff_ne.2 ht, Bool.false_and, if_neg (by decide)] at hcr
              replace hcr := hide hcr
              go_wp2_with fail
              have q2 := R2.out
              rw [← hcr.out] at q2
              go_roundw
              case rel =>
                exact ⟨m + 1, by omega, by go_num, R1.out, q2, R3.out, R4.out⟩
              case measure => simp [intOf]; omega
          · have hm4' : m = 4 := by omega
            subst hm4'
            have R2' : Hid (Blk wr g 67 (sureC (crashN (crashF keep torn sectors) D.queue (j + 1) D.sure) ++ pad')) := by
              rw [hst.out]; exact R2
            clear R2
            go_wp2_with fail
            go_roundw
            case rel => exact ⟨j + 1, by omega, by go_num, R1.out, R2'.out, R4.out⟩
            case measure => simp [intOf]; omega
    · have hjn : j = D.queue.length := by omega
      have HL := hide (crash_end G1.out G2.out G3.out hg1.out hdw.out hgd.out hjn h64.out hq.out hn)
      go_wp2_with fail
      go_ret
      exact ⟨cd, g, cap, pad', rfl, HL.out⟩
end Go.Proofs.Ytpcaaobninnkaaa
