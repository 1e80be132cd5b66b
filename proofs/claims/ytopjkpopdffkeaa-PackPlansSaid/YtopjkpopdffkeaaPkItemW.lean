/- The walk over marlref13.Items. -/
import Derived.Test.YtopjkpopdffkeaaPkFitsW
import Derived.Test.YtopjkpopdffkeaaRowK
namespace Go.Proofs.Ytopjkpopdffkeaa
open Go.RowKit
attribute [local go_sem ↓] Go.wp_at_zero Go.wp_at_succ

theorem etyIt : EtyK Try.prog 41 61 (.agg #[.int .i64 0, .int .i64 0]) 2 16 := EtyK.mk' Try.underlying41 (by kernel_rfl) (by kernel_rfl) (by decide) (by decide)
theorem one_item (w : World) (xs : Array Value) (h : xs.size = 2) : (Instr.buildSlice 41 1 #[(0, .agg xs)]).run Try.prog w = .ok (.slice (some ⟨w.heap.size, 0, none⟩) 1 1) (w.alloc (.cells xs 61)) := one_slice etyIt w xs h (by decide)
/-- Items as the reference has them. -/
def refF (i : Nat) : List FI → List RI
  | [] => []
  | f :: fs => f.ls.map (fun n => ((i : Int), n)) ++ refF (i + 1) fs
def refA (files : List FI) (inos : List Int) : List RI := refF 0 files ++ inos.map fun n => (-1, n)
theorem refF_items : ∀ (fs : List FI) (i : Nat), (itemsF i fs).map itR = refF i fs
  | [], _ => rfl
  | f :: fs, i => by
    rw [itemsF, refF, List.map_append, refF_items fs (i + 1), List.map_map]
    rfl
theorem refA_items (files : List FI) (inos : List Int) : (itemsA files inos).map itR = refA files inos := by
  unfold itemsA refA
  rw [List.map_append, refF_items, List.map_map]
  rfl
theorem refF_app : ∀ (a b : List FI) (i : Nat), refF i (a ++ b) = refF i a ++ refF (i + a.length) b
  | [], b, i => by simp [refF]
  | f :: a, b, i => by rw [List.cons_append, refF, refF, refF_app a b (i + 1), List.append_assoc, List.length_cons, show i + 1 + a.length = i + (a.length + 1) by omega]
theorem refF_take {fs : List FI} {i : Nat} {f : FI} (h : fs[i]? = some f) : refF 0 (fs.take (i + 1)) = refF 0 (fs.take i) ++ f.ls.map fun n => ((i : Int), n) := by
  have hi := (List.getElem?_eq_some_iff.1 h).1
  rw [List.take_add_one, h, refF_app]
  congr 1
  rw [List.length_take, Nat.min_eq_left (by omega), Nat.zero_add]
  show f.ls.map _ ++ [] = _
  rw [List.append_nil]
theorem refF_len : ∀ (fs : List FI) (i : Nat), (refF i fs).length = lsN fs
  | [], _ => rfl
  | f :: fs, i => by rw [refF, List.length_append, List.length_map, refF_len fs (i + 1)]; rfl
theorem mapT {i : Nat} {l : List Int} {k : Nat} {n : Int} (hk : l[k]? = some n) : ((l.take (k + 1)).map fun n => ((i : Int), n)) = ((l.take k).map fun n => ((i : Int), n)) ++ [((i : Int), n)] := by
  rw [List.take_add_one, hk, List.map_append]
  rfl
theorem mapV {l : List Int} {k : Nat} {n : Int} (hk : l[k]? = some n) : ((l.take (k + 1)).map fun n => ((-1 : Int), n)) = ((l.take k).map fun n => ((-1 : Int), n)) ++ [(-1, n)] := by
  rw [List.take_add_one, hk, List.map_append]
  rfl
theorem it_snoc {w w' : World} {bs n c m d : Nat} {A B : Option Addr} {l : List RI} {x : RI} (ho : w'.ownsRow bs 61 2 (.slice B m d) m (b2C l ++ b2 x)) : w'.ownsRow bs 61 2 (.slice B m d) m (b2C (l ++ [x])) := by
  rw [b2C_app]
  simpa [b2C] using ho
set_option maxRecDepth 100000 in
set_option maxHeartbeats 4000000 in
theorem items_any (A A' : Option Addr) (m c m' c' lo base lo' base' : Nat) (files : List FI) (inos : List Int) (w : World) (hf : FisAt lo base w A m files) (hi : IntsAt lo' base' w A' m' inos) (hm : m ≤ 1000) (hm' : m' ≤ 1000) (hl : lsN files ≤ 1000) :
    Calls Try.prog 18 #[.slice A m c, .slice A' m' c'] w fun e w' => ∃ B n d, e = .returned (.slice B n d) ∧ ItAt w.heap.size w.heap.size w' B n (refA files inos) ∧ Below w.heap.size w w' := by
  have HF := hide hf
  have HI := hide hi
  have HL1 := hide hf.len
  have HL2 := hide (IntsAt.len hi)
  have HL := hide hl
  clear hf hi hl
  have lt2 := fun w xs h => one_item w xs h
  go_enter Try.func18, Try.ntmps18
  go_wp2_with fail
  go_loopw [5, 6, 11] (fun v _ y wr => ∃ (i n : Nat) (B : Option Addr) (d : Nat), i ≤ m ∧ y = .int .i64 (i : Int) ∧ v = .slice B n d ∧ n = (refF 0 (files.take i)).length ∧ wr.ownsRow w.heap.size 61 2 (.slice B n d) n (b2C (refF 0 (files.take i))) ∧ Below w.heap.size w wr) (fun _ _ y _ => m - (intOf y).toNat)
  case atStart => exact ⟨0, 0, none, 0, Nat.zero_le _, rfl, rfl, rfl, World.ownsRow_nil _ _ _ _, Below.refl _ _⟩
  case round =>
    obtain ⟨i, n, B, d, him, rfl, rfl, hn, hO, hb⟩ := hrel
    have HN := hide hn
    have HO := hide hO
    have HB := hide hb
    clear hn hO hb
    by_cases hlt : i < m
    · obtain ⟨b, off, f, A1, c1, hA, hFr, hfi, hI1, q0, q1, q2⟩ := (HF.out.below HB.out).at hlt
      subst hA
      have HFI := hide hfi
      have LT := hide (lsN_take hfi)
      have LE := hide (lsN_le files (i + 1))
      have HI1 := hide hI1
      have BLT := hide hFr.2.1
      have RL := hide (refF_len (files.take i) 0)
      obtain ⟨mf, hmf⟩ : ∃ x, x = f.ls.length := ⟨_, rfl⟩
      rw [← hmf] at q2 HI1 LT
      have HMF := hide hmf
      have Q2 := hide q2
      have hmfb : mf ≤ 1000 := by have := LE.out; have := LT.out; have := HL.out; omega
      clear hfi hI1 hFr hmf q0 q1
      have his : (i : Int) < (m : Int) := by omega
      have hi64 : IntKind.i64.wrap (i : Int) = (i : Int) := by rw [IntKind.wrap_i64]; omega
      go_wp2_with fail
      clear q2
      obtain ⟨w1, hw1⟩ : ∃ W, W = wr := ⟨_, rfl⟩
      rw [← hw1] at HO HB HI1 Q2 BLT ⊢
      clear hw1
      go_loopw [5, 7, 20] (fun v _ y wr => ∃ (k n' : Nat) (B : Option Addr) (d : Nat), k ≤ mf ∧ y = .int .i64 (k : Int) ∧ v = .slice B n' d ∧ n' = n + k ∧ wr.ownsRow w.heap.size 61 2 (.slice B n' d) n' (b2C (refF 0 (files.take i) ++ (f.ls.take k).map fun z => ((i : Int), z))) ∧ Below w.heap.size w wr) (fun _ _ y _ => mf - (intOf y).toNat)
      case atStart => exact ⟨0, n, B, d, Nat.zero_le _, rfl, rfl, rfl, by have := HO.out; simpa using this, HB.out⟩
      case round =>
        obtain ⟨k, n', B', d', hkm, rfl, rfl, hn', hO, hb⟩ := hrel
        have HN' := hide hn'
        have HO' := hide hO
        have HB' := hide hb
        clear hn' hO hb
        by_cases hlt2 : k < mf
        · obtain ⟨zn, hzn⟩ : ∃ x, f.ls[k]? = some x := ⟨_, List.getElem?_eq_getElem (by rw [← HMF.out]; exact hlt2)⟩
          obtain ⟨b5, off5, f', A5, c5, hA5, hFr5, hfi5, hI5, q0, q1, q2⟩ := (HF.out.below HB'.out).at hlt
          have ef : f' = f := by rw [HFI.out] at hfi5; exact (Option.some.inj hfi5).symm
          subst ef
          injection hA5 with hA5
          injection hA5 with e1 e2
          subst e1 e2
          rw [← HMF.out] at q2 hI5
          obtain ⟨b6, off6, hA6, hF6, hc6⟩ := RwAt.at hI5 (by omega) (by decide)
          have z6 := hc6 k (.int .i64 zn) (by rw [intC, List.getElem?_map, hzn]; rfl)
          subst hA6
          have HZN := hide hzn
          have hn'b : n' ≤ 1000 := by have := HN'.out; have := HN.out; have := RL.out; have := LE.out; have := LT.out; have := HL.out; omega
          have hks : (k : Int) < (mf : Int) := by omega
          have hk64 : IntKind.i64.wrap (k : Int) = (k : Int) := by rw [IntKind.wrap_i64]; omega
          clear hzn hF6 hc6 hI5 hfi5 hFr5 q0 q1
          go_wp2_with (
            at_builtin
            refine wpList_appK rfl (.tmp 23) (.tmp 34) _ rfl etyIt w.heap.size (.slice B' n' d') n' _ rfl (own_bel HO'.out ((Below.refl wr.heap.size wr).alloc (Nat.le_refl _) (.cells #[.int .i64 (i : Int), .int .i64 zn] 61))) (wr.heap.size + 1) (some ⟨wr.heap.size, 0, none⟩) 1 1 (b2 ((i : Int), zn)) rfl (slc_new wr (b2 ((i : Int), zn)) _ rfl) (b2_one _) (by omega) (Nat.le_trans HB'.out.size (by simp)) ?_
            intro A7 c7 w7 hown hg hnew
            have O7 := hide (show w7.ownsRow w.heap.size 61 2 (.slice A7 (n' + 1) c7) (n' + 1) (b2C (refF 0 (files.take i) ++ (f'.ls.take (k + 1)).map fun z => ((i : Int), z))) from by
              rw [mapT HZN.out, ← List.append_assoc]
              exact it_snoc (w := w7) (n := 0) (c := 0) (A := none) hown)
            have B7 := hide (bel_gr (HB'.out.alloc HB'.out.size (.cells #[.int .i64 (i : Int), .int .i64 zn] 61)) hg (fun g hg => (HO'.out.lt g hg).1) (Nat.le_trans HB'.out.size (by simp)))
            clear hown hg hnew)
          go_roundw
          case rel => exact ⟨k + 1, n' + 1, A7, c7, by omega, by go_num, rfl, by have := HN'.out; omega, O7.out, B7.out⟩
          case measure => simp [intOf]; omega
        · have hkm' : k = mf := by omega
          have HK := hide hkm'
          clear hkm'
          go_wp2_with fail
          go_roundw
          case rel =>
            have hfull : f.ls.take k = f.ls := by rw [HK.out, HMF.out, List.take_length]
            refine ⟨i + 1, n', B', d', by omega, by go_num, rfl, ?_, ?_, HB'.out⟩
            · rw [refF_len, LT.out, HN'.out, HN.out, RL.out, HK.out]
            · have := HO'.out
              rw [hfull, ← refF_take HFI.out] at this
              exact this
          case measure => simp [intOf]; omega
    · have him' : i = m := by omega
      have hfull : files.take i = files := by rw [him', ← HL1.out, List.take_length]
      rw [hfull] at HN HO
      have hnb : n ≤ 1000 := by have := HN.out; rw [refF_len] at this; have := HL.out; omega
      clear hfull him'
      go_wp2_with fail
      go_loopw [5, 8, 40] (fun v _ y wr => ∃ (k n' : Nat) (B : Option Addr) (d : Nat), k ≤ m' ∧ y = .int .i64 (k : Int) ∧ v = .slice B n' d ∧ n' = n + k ∧ wr.ownsRow w.heap.size 61 2 (.slice B n' d) n' (b2C (refF 0 files ++ (inos.take k).map fun z => ((-1 : Int), z))) ∧ Below w.heap.size w wr) (fun _ _ y _ => m' - (intOf y).toNat)
      case atStart => exact ⟨0, n, B, d, Nat.zero_le _, rfl, rfl, rfl, by have := HO.out; simpa using this, HB.out⟩
      case round =>
        obtain ⟨k, n', B', d', hkm, rfl, rfl, hn', hO, hb⟩ := hrel
        have HN' := hide hn'
        have HO' := hide hO
        have HB' := hide hb
        clear hn' hO hb
        by_cases hlt2 : k < m'
        · obtain ⟨zn, hzn⟩ : ∃ x, inos[k]? = some x := ⟨_, List.getElem?_eq_getElem (by rw [HL2.out]; exact hlt2)⟩
          obtain ⟨b6, off6, hA6, hF6, hc6⟩ := RwAt.at (RwAt.below HI.out HB'.out) (by omega) (by decide)
          have z6 := hc6 k (.int .i64 zn) (by rw [intC, List.getElem?_map, hzn]; rfl)
          subst hA6
          have HZN := hide hzn
          have hn'b : n' ≤ 2000 := by have := HN'.out; omega
          have hks : (k : Int) < (m' : Int) := by omega
          have hk64 : IntKind.i64.wrap (k : Int) = (k : Int) := by rw [IntKind.wrap_i64]; omega
          clear hzn hF6 hc6
          go_wp2_with (
            at_builtin
            refine wpList_appK rfl (.tmp 43) (.tmp 49) _ rfl etyIt w.heap.size (.slice B' n' d') n' _ rfl (own_bel HO'.out ((Below.refl wr.heap.size wr).alloc (Nat.le_refl _) (.cells #[.int .i64 (-1), .int .i64 zn] 61))) (wr.heap.size + 1) (some ⟨wr.heap.size, 0, none⟩) 1 1 (b2 (-1, zn)) rfl (slc_new wr (b2 (-1, zn)) _ rfl) (b2_one _) (by omega) (Nat.le_trans HB'.out.size (by simp)) ?_
            intro A7 c7 w7 hown hg hnew
            have O7 := hide (show w7.ownsRow w.heap.size 61 2 (.slice A7 (n' + 1) c7) (n' + 1) (b2C (refF 0 files ++ (inos.take (k + 1)).map fun z => ((-1 : Int), z))) from by
              rw [mapV HZN.out, ← List.append_assoc]
              exact it_snoc (w := w7) (n := 0) (c := 0) (A := none) hown)
            have B7 := hide (bel_gr (HB'.out.alloc HB'.out.size (.cells #[.int .i64 (-1), .int .i64 zn] 61)) hg (fun g hg => (HO'.out.lt g hg).1) (Nat.le_trans HB'.out.size (by simp)))
            clear hown hg hnew)
          go_roundw
          case rel => exact ⟨k + 1, n' + 1, A7, c7, by omega, by go_num, rfl, by have := HN'.out; omega, O7.out, B7.out⟩
          case measure => simp [intOf]; omega
        · have hkm' : k = m' := by omega
          have hfull : inos.take k = inos := by rw [hkm', ← HL2.out, List.take_length]
          rw [hfull] at HO'
          clear hfull hkm'
          go_wp2_with fail
          go_ret
          exact ⟨B', n', d', rfl, RwAt.of_own HO'.out, HB'.out⟩
end Go.Proofs.Ytopjkpopdffkeaa
