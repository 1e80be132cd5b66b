/- The walk of entry.ReadMap. -/
import Derived.Test.YtbmblofhogihdaaMbW
import Derived.Test.YtbmblofhogihdaaLast
import Derived.Test.YtbmblofhogihdaaConv
import Derived.Test.YtbmblofhogihdaaLeS
import Derived.Laws.Tables
import Derived.Laws.CopyOwn
import Derived.Laws.Rows
import Derived.Test.YtbmblofhogihdaaTk
namespace Go.Proofs.Ytbmblofhogihdaa
open Go.RowKit
set_option maxRecDepth 100000
attribute [local go_sem ↓] Go.wp_at_zero Go.wp_at_succ

theorem by_atM {w : World} {A : Option Addr} {n : Nat} {l : List UInt8} (h : By w w.heap.size A n l) (hn : 0 < n) : ∃ b off, A = some ⟨b, off, none⟩ ∧ l.length = n ∧ ∀ j, j < n → w.cell? ⟨b, off + j, none⟩ = some (.int .u8 ((nb l j : Nat) : Int)) := by
  have hl : l.length = n := by have := h.1; simpa [u8s] using this
  obtain ⟨⟨b, off, spot⟩, rfl, hb, hc⟩ := h.2 0 (.int .u8 (((l[0]'(by omega)).toNat : Nat) : Int)) (by simp [u8s, List.getElem?_eq_getElem (show 0 < l.length by omega)])
  have hsp : spot = none := by
    have := World.cell?_spot hc
    simpa [Addr.add] using this
  subst hsp
  refine ⟨b, off, rfl, hl, fun j hj => ?_⟩
  obtain ⟨_, e, -, hc⟩ := h.2 j (.int .u8 ((nb l j : Nat) : Int)) (by
    unfold nb
    rw [List.getD_eq_getElem?_getD, List.getElem?_eq_getElem (show j < l.length by omega)]
    simp [u8s, List.getElem?_eq_getElem (show j < l.length by omega)])
  cases e
  rw [Addr.add_mid] at hc
  exact hc
/-- The entries read so far. -/
def rdF (f : Nat → Nat × Nat) (i : Nat) : List (Nat × Nat) := (List.range 8).map fun k => if k < i then f k else (0, 0)
theorem rdF_len (f : Nat → Nat × Nat) (i : Nat) : (rdF f i).length = 8 := by simp [rdF]
theorem rdF_set (f : Nat → Nat × Nat) (i : Nat) (hi : i < 8) : (rdF f i).set i (f i) = rdF f (i + 1) := by
  apply List.ext_getElem?
  intro k
  by_cases hk : k < 8
  · by_cases e : i = k
    · subst e
      rw [List.getElem?_set_self (by rw [rdF_len]; exact hk), rdF, List.getElem?_map, List.getElem?_range hk, Option.map_some, if_pos (by omega)]
    · rw [List.getElem?_set_ne e, rdF, rdF, List.getElem?_map, List.getElem?_map, List.getElem?_range hk, Option.map_some, Option.map_some]
      by_cases h : k < i
      · rw [if_pos h, if_pos (by omega)]
      · rw [if_neg h, if_neg (by omega)]
  · rw [List.getElem?_eq_none (by rw [List.length_set, rdF_len]; omega), List.getElem?_eq_none (by rw [rdF_len]; omega)]
theorem meC_set (L : List (Nat × Nat)) (i : Nat) (hi : i < L.length) (e : Nat × Nat) : ((fl meC L).setIfInBounds (i * 2) (.int .i64 (e.1 : Int))).setIfInBounds (i * 2 + 1) (.int .i64 (e.2 : Int)) = fl meC (L.set i e) := by
  have h1 := fl_set meC_len L i 0 (by omega) (.int .i64 (e.1 : Int)) (e.1, (L[i]).2) (by
    intro x hx
    rw [List.getElem?_eq_getElem hi] at hx
    injection hx with hx
    subst hx
    rfl)
  have h2 := fl_set meC_len (L.set i (e.1, (L[i]).2)) i 1 (by omega) (.int .i64 (e.2 : Int)) e (by
    intro x hx
    rw [List.getElem?_set_self hi] at hx
    injection hx with hx
    subst hx
    rfl)
  rw [Nat.add_zero] at h1
  rw [h1, h2, List.set_set]
def zer8 : List (Nat × Nat) := List.replicate 8 (0, 0)
theorem results_cell_slotM {P : Program} {fn : Func} {p q : Tmp} {ty : TypeId} (h : fn.results = #[.cell p ty, .tmp q]) (tmps : Array Value) (w : World) (g : Nat) (t : TypeId) (cs : Array Value) (fr : Nat × Nat) (d : TypeDesc) (v : Value)
    (hp : tmps.getD p undef = .pointer (some ⟨g, 0, none⟩)) (hq : tmps.getD q undef = v) (hg : w.heap[g]? = some (.cells cs t fr))
    (hu : P.underlying ty = some d) (hd : (match d with | .struct _ | .array _ _ => true | _ => false) = true) (hi : (P.info? ty).map (·.size) = some cs.size) :
    (results fn tmps).run P w = .ok (.tuple #[.agg cs, v]) w := by
  have hp' : tmps[p]?.getD undef = .pointer (some ⟨g, 0, none⟩) := by simpa using hp
  have hq' : tmps[q]?.getD undef = v := by simpa using hq
  simp [results, h, hp', hq', asAddr, run_loadVar_row w g t ty cs fr d hg hu hd hi]
theorem hi16M : (Try.prog.info? 61).map (·.size) = some 16 := by kernel_rfl
theorem ret_rm {K : Ending → World → Prop} {tmps : Array Value} {w : World} {g : Nat} {cs : Array Value} {v : Value} (hp : tmps.getD 2 undef = .pointer (some ⟨g, 0, none⟩)) (hq : tmps.getD 3 undef = v) (hB : Blk w g 61 cs) (hs : cs.size = 16)
    (hK : K (.returned (.tuple #[.agg cs, v])) w) : bodyPost Try.prog Try.f23 K .ret ⟨tmps, []⟩ w :=
  bodyPost_ret (results_cell_slotM (g := g) (cs := cs) (t := 61) (fr := (0, 0)) rfl _ _ (v := v) (hp := hp) (hq := hq) (hg := hB) (hu := Try.underlying61) (hd := rfl) (hi := by rw [hs]; exact hi16M)) rfl hK
theorem rdF_8 (b : List UInt8) : rdF (rdE4 b) 8 = rdL4 b := by
  unfold rdF rdL4
  apply List.map_congr_left
  intro k hk
  rw [if_pos (List.mem_range.1 hk)]
theorem zer8_cells : fl meC zer8 = #[.int .i64 0, .int .i64 0, .int .i64 0, .int .i64 0, .int .i64 0, .int .i64 0, .int .i64 0, .int .i64 0, .int .i64 0, .int .i64 0, .int .i64 0, .int .i64 0, .int .i64 0, .int .i64 0, .int .i64 0, .int .i64 0] := rfl
theorem fl8_one (l : List (Nat × Nat)) : (fl meC l).all (·.oneCell') = true := by
  rw [Array.all_eq_true_iff_forall_mem]
  intro x hx
  simp only [fl, List.mem_toArray, List.mem_flatMap] at hx
  obtain ⟨e, -, hx⟩ := hx
  simp only [meC, List.mem_cons, List.not_mem_nil, or_false] at hx
  rcases hx with rfl | rfl <;> rfl
def RmAns (b : List UInt8) (r : Ending) : Prop := r = .returned (.tuple #[.agg (fl meC (if isM b = true then rdL b else zer8)), .int .i64 (if isM b = true then 0 else 100)])
set_option maxHeartbeats 4000000 in
theorem readmap_any (w : World) (A : Option Addr) (n c : Nat) (b : List UInt8) (h : By w w.heap.size A n b) (hc : n ≤ c) (hcm : c ≤ 9223372036854775807) :
    Calls Try.prog 23 #[.slice A n c] w fun r w' => RmAns b r ∧ Below w.heap.size w w' := by
  have H := hide h
  have hl : b.length = n := by have := h.1; simpa [u8s] using this
  have HL := hide hl
  have HC := hide (And.intro hc hcm)
  clear h hl hc hcm
  by_cases hn : n = 64
  rotate_left
  · have hn' : ((n : Int) != 64) = true := bne_iff_ne.2 (by omega)
    have HM := hide (show isM b = false by
      unfold isM
      exact decide_eq_false (fun h => hn (by rw [← HL.out]; exact h.1)))
    clear hn
    go_enter Try.func23, Try.ntmps23
    go_upto_region 2 with fail
    obtain ⟨w1, hw⟩ : ∃ W, W = (w.alloc (.cells #[.int .i64 0, .int .i64 0, .int .i64 0, .int .i64 0, .int .i64 0, .int .i64 0, .int .i64 0, .int .i64 0, .int .i64 0, .int .i64 0, .int .i64 0, .int .i64 0, .int .i64 0, .int .i64 0, .int .i64 0, .int .i64 0] 61)).alloc (.cells #[.int .i64 0, .int .i64 0, .int .i64 0, .int .i64 0, .int .i64 0, .int .i64 0, .int .i64 0, .int .i64 0, .int .i64 0, .int .i64 0, .int .i64 0, .int .i64 0, .int .i64 0, .int .i64 0, .int .i64 0, .int .i64 0] 61) := ⟨_, rfl⟩
    have X2 : Hid (Blk w1 w.heap.size 61 #[.int .i64 0, .int .i64 0, .int .i64 0, .int .i64 0, .int .i64 0, .int .i64 0, .int .i64 0, .int .i64 0, .int .i64 0, .int .i64 0, .int .i64 0, .int .i64 0, .int .i64 0, .int .i64 0, .int .i64 0, .int .i64 0]) := hide (by rw [hw]; exact (Blk.new _ _ _).alloc _)
    have X4 : Hid (Blk w1 (w.heap.size + 1) 61 #[.int .i64 0, .int .i64 0, .int .i64 0, .int .i64 0, .int .i64 0, .int .i64 0, .int .i64 0, .int .i64 0, .int .i64 0, .int .i64 0, .int .i64 0, .int .i64 0, .int .i64 0, .int .i64 0, .int .i64 0, .int .i64 0]) := hide (by rw [hw]; have := Blk.new (w.alloc (.cells #[.int .i64 0, .int .i64 0, .int .i64 0, .int .i64 0, .int .i64 0, .int .i64 0, .int .i64 0, .int .i64 0, .int .i64 0, .int .i64 0, .int .i64 0, .int .i64 0, .int .i64 0, .int .i64 0, .int .i64 0, .int .i64 0] 61)) 61 #[.int .i64 0, .int .i64 0, .int .i64 0, .int .i64 0, .int .i64 0, .int .i64 0, .int .i64 0, .int .i64 0, .int .i64 0, .int .i64 0, .int .i64 0, .int .i64 0, .int .i64 0, .int .i64 0, .int .i64 0, .int .i64 0]; simpa using this)
    have BW : Hid (Below w.heap.size w w1) := hide (by rw [hw]; exact ((Below.refl _ _).alloc (Nat.le_refl _) _).alloc (by simp) _)
    rw [← hw]
    obtain ⟨g2, hg2⟩ : ∃ g, g = w.heap.size := ⟨_, rfl⟩
    rw [← hg2] at X2 X4 ⊢
    obtain ⟨g4, hg4⟩ : ∃ g, g = g2 + 1 := ⟨_, rfl⟩
    rw [← hg4] at X4 ⊢
    have G := hide (show w.heap.size ≤ g2 by omega)
    clear hw hg2 hg4
    have HZ := hide (And.intro (show (Try.prog.info? 61).map (·.size) = some (#[.int .i64 0, .int .i64 0, .int .i64 0, .int .i64 0, .int .i64 0, .int .i64 0, .int .i64 0, .int .i64 0, .int .i64 0, .int .i64 0, .int .i64 0, .int .i64 0, .int .i64 0, .int .i64 0, .int .i64 0, .int .i64 0] : Array Value).size from hi16M) (show (#[.int .i64 0, .int .i64 0, .int .i64 0, .int .i64 0, .int .i64 0, .int .i64 0, .int .i64 0, .int .i64 0, .int .i64 0, .int .i64 0, .int .i64 0, .int .i64 0, .int .i64 0, .int .i64 0, .int .i64 0, .int .i64 0] : Array Value).all (·.oneCell') = true by rw [← zer8_cells]; exact fl8_one _))
    go_upto_region 3 with fail
    go_wp2_with (first | (refine wpList_load_row (by rfl) 61 (.tmp 4) (by rfl) g4 (by rfl) 61 #[.int .i64 0, .int .i64 0, .int .i64 0, .int .i64 0, .int .i64 0, .int .i64 0, .int .i64 0, .int .i64 0, .int .i64 0, .int .i64 0, .int .i64 0, .int .i64 0, .int .i64 0, .int .i64 0, .int .i64 0, .int .i64 0] (0, 0) _ X4.out Try.underlying61 rfl HZ.out.1 ?_) | (refine wpList_store_row (by rfl) 61 (.tmp 2) (.tmp 12) (by rfl) g2 #[.int .i64 0, .int .i64 0, .int .i64 0, .int .i64 0, .int .i64 0, .int .i64 0, .int .i64 0, .int .i64 0, .int .i64 0, .int .i64 0, .int .i64 0, .int .i64 0, .int .i64 0, .int .i64 0, .int .i64 0, .int .i64 0] (by rfl) (by rfl) 61 #[.int .i64 0, .int .i64 0, .int .i64 0, .int .i64 0, .int .i64 0, .int .i64 0, .int .i64 0, .int .i64 0, .int .i64 0, .int .i64 0, .int .i64 0, .int .i64 0, .int .i64 0, .int .i64 0, .int .i64 0, .int .i64 0] X2.out HZ.out.1 (by rfl) HZ.out.2 ?_))
    refine ret_rm (g := g2) rfl rfl (setRow_heap _ _ _ _ _ _ X2.out) rfl ⟨?_, below_setRow BW.out G.out _⟩
    unfold RmAns
    rw [if_neg (by rw [HM.out]; decide), if_neg (by rw [HM.out]; decide), zer8_cells]
    rfl
  subst hn
  obtain ⟨bb, ob, rfl, -, hby⟩ := by_atM H.out (by decide)
  have HBY := hide hby
  clear hby
  go_enter Try.func23, Try.ntmps23
  go_upto_region 2 with fail
  obtain ⟨w1, hw⟩ : ∃ W, W = (w.alloc (.cells #[.int .i64 0, .int .i64 0, .int .i64 0, .int .i64 0, .int .i64 0, .int .i64 0, .int .i64 0, .int .i64 0, .int .i64 0, .int .i64 0, .int .i64 0, .int .i64 0, .int .i64 0, .int .i64 0, .int .i64 0, .int .i64 0] 61)).alloc (.cells #[.int .i64 0, .int .i64 0, .int .i64 0, .int .i64 0, .int .i64 0, .int .i64 0, .int .i64 0, .int .i64 0, .int .i64 0, .int .i64 0, .int .i64 0, .int .i64 0, .int .i64 0, .int .i64 0, .int .i64 0, .int .i64 0] 61) := ⟨_, rfl⟩
  have X2 : Hid (Blk w1 w.heap.size 61 #[.int .i64 0, .int .i64 0, .int .i64 0, .int .i64 0, .int .i64 0, .int .i64 0, .int .i64 0, .int .i64 0, .int .i64 0, .int .i64 0, .int .i64 0, .int .i64 0, .int .i64 0, .int .i64 0, .int .i64 0, .int .i64 0]) := hide (by rw [hw]; exact (Blk.new _ _ _).alloc _)
  have X4 : Hid (Blk w1 (w.heap.size + 1) 61 (fl meC (rdF (rdE4 b) 0))) := hide (by rw [hw, show fl meC (rdF (rdE4 b) 0) = #[.int .i64 0, .int .i64 0, .int .i64 0, .int .i64 0, .int .i64 0, .int .i64 0, .int .i64 0, .int .i64 0, .int .i64 0, .int .i64 0, .int .i64 0, .int .i64 0, .int .i64 0, .int .i64 0, .int .i64 0, .int .i64 0] from rfl]; have := Blk.new (w.alloc (.cells #[.int .i64 0, .int .i64 0, .int .i64 0, .int .i64 0, .int .i64 0, .int .i64 0, .int .i64 0, .int .i64 0, .int .i64 0, .int .i64 0, .int .i64 0, .int .i64 0, .int .i64 0, .int .i64 0, .int .i64 0, .int .i64 0] 61)) 61 #[.int .i64 0, .int .i64 0, .int .i64 0, .int .i64 0, .int .i64 0, .int .i64 0, .int .i64 0, .int .i64 0, .int .i64 0, .int .i64 0, .int .i64 0, .int .i64 0, .int .i64 0, .int .i64 0, .int .i64 0, .int .i64 0]; simpa using this)
  have BW : Hid (Below w.heap.size w w1) := hide (by rw [hw]; exact ((Below.refl _ _).alloc (Nat.le_refl _) _).alloc (by simp) _)
  rw [← hw]
  obtain ⟨g2, hg2⟩ : ∃ g, g = w.heap.size := ⟨_, rfl⟩
  rw [← hg2] at X2 X4 ⊢
  obtain ⟨g4, hg4⟩ : ∃ g, g = g2 + 1 := ⟨_, rfl⟩
  rw [← hg4] at X4 ⊢
  have G := hide (show w.heap.size ≤ g2 ∧ w.heap.size ≤ g4 ∧ g2 ≠ g4 by omega)
  clear hw hg2 hg4
  go_wp2_with fail
  go_loopw [13] (fun y wr => ∃ i : Nat, i ≤ 8 ∧ y = .int .i64 (i : Int) ∧ Blk wr g4 61 (fl meC (rdF (rdE4 b) i)) ∧ Blk wr g2 61 #[.int .i64 0, .int .i64 0, .int .i64 0, .int .i64 0, .int .i64 0, .int .i64 0, .int .i64 0, .int .i64 0, .int .i64 0, .int .i64 0, .int .i64 0, .int .i64 0, .int .i64 0, .int .i64 0, .int .i64 0, .int .i64 0] ∧ Below w.heap.size w wr) (fun y _ => 8 - (intOf y).toNat)
  case atStart => exact ⟨0, Nat.zero_le _, rfl, X4.out, X2.out, BW.out⟩
  case round =>
    obtain ⟨i, hi, rfl, hx4, hx2, hb⟩ := hrel
    clear X4 X2 BW
    have X4 := hide hx4
    have X2 := hide hx2
    have BW := hide hb
    clear hx4 hx2 hb
    by_cases hlt : i < 8
    rotate_left
    · have h8 : ¬ (i : Int) < 8 := by omega
      obtain rfl : i = 8 := by omega
      rw [rdF_8] at X4
      obtain ⟨cs, hcs⟩ : ∃ cs, cs = fl meC (rdL4 b) := ⟨_, rfl⟩
      rw [← hcs] at X4
      have hsz : cs.size = 16 := by rw [hcs, fl_size meC_len, rdL4_len]
      have MB := hide (mapblock_any wr (rdL4 b) (rdL4_len b) (rdL4_bd b))
      rw [← hcs] at MB
      have HCS := hide (And.intro hcs hsz)
      have hi : (Try.prog.info? 61).map (·.size) = some cs.size := by rw [hsz]; exact hi16M
      clear hcs hsz
      go_wp2_with (refine wpList_load_row rfl 61 (.tmp 4) rfl g4 rfl 61 cs (0, 0) _ X4.out Try.underlying61 rfl hi ?_)
      refine MB.out.mono ?_
      rintro r w5 h
      unfold AllAns at h
      clear MB
      have HI := hide hi
      clear hi
      have key := isM_4 (b := b) HL.out
      by_cases hg : (rdL4 b).all gdE = true
      rotate_left
      · rw [if_neg hg] at h
        obtain ⟨rfl, hb⟩ := h
        have hm : isM b = false := by
          cases hm : isM b with
          | false => rfl
          | true => exact absurd (key.1.2 hm).1 hg
        replace X2 := hide (X2.out.below hb)
        replace BW := hide (BW.out.trans (hb.mono BW.out.size))
        have HM := hide hm
        clear hb hm key hg
        have hz16 : (Try.prog.info? 61).map (·.size) = some (#[.int .i64 0, .int .i64 0, .int .i64 0, .int .i64 0, .int .i64 0, .int .i64 0, .int .i64 0, .int .i64 0, .int .i64 0, .int .i64 0, .int .i64 0, .int .i64 0, .int .i64 0, .int .i64 0, .int .i64 0, .int .i64 0] : Array Value).size := hi16M
        have hz1 : (#[.int .i64 0, .int .i64 0, .int .i64 0, .int .i64 0, .int .i64 0, .int .i64 0, .int .i64 0, .int .i64 0, .int .i64 0, .int .i64 0, .int .i64 0, .int .i64 0, .int .i64 0, .int .i64 0, .int .i64 0, .int .i64 0] : Array Value).all (·.oneCell') = true := by rw [← zer8_cells]; exact fl8_one _
        go_upto_region 12 with fail
        go_wp2_with ((refine wpList_store_row (by rfl) 61 (.tmp 2) (.tmp 70) (by rfl) g2 #[.int .i64 0, .int .i64 0, .int .i64 0, .int .i64 0, .int .i64 0, .int .i64 0, .int .i64 0, .int .i64 0, .int .i64 0, .int .i64 0, .int .i64 0, .int .i64 0, .int .i64 0, .int .i64 0, .int .i64 0, .int .i64 0] (by rfl) (by rfl) 61 #[.int .i64 0, .int .i64 0, .int .i64 0, .int .i64 0, .int .i64 0, .int .i64 0, .int .i64 0, .int .i64 0, .int .i64 0, .int .i64 0, .int .i64 0, .int .i64 0, .int .i64 0, .int .i64 0, .int .i64 0, .int .i64 0] X2.out hz16 (by rfl) hz1 ?_))
        refine ret_rm (g := g2) rfl rfl (setRow_heap _ _ _ _ _ _ X2.out) rfl ⟨?_, below_setRow BW.out G.out.1 _⟩
        unfold RmAns
        rw [if_neg (by rw [HM.out]; decide), if_neg (by rw [HM.out]; decide), zer8_cells]
        rfl
      · rw [if_pos hg] at h
        obtain ⟨A7, c7, rfl, ho, hb⟩ := h
        have hb64 : b.length = 64 := HL.out
        have OB := hide (Sl.of_own ho)
        replace X2 := hide (X2.out.below hb)
        replace X4 := hide (X4.out.below hb)
        have HB2 := hide ((H.out.below BW.out).below (hb.mono BW.out.size))
        replace BW := hide (BW.out.trans (hb.mono BW.out.size))
        have hl8 : 8 * (rdL4 b).length = 64 := by rw [rdL4_len]
        rw [hl8] at OB ⊢
        clear hb ho hl8
        have e1 := run_conv_txt (P := Try.prog) (w := w5) Try.underlying44 Try.underlying5 Try.underlying9 c7 OB.out
        have e2 := run_conv_txt (P := Try.prog) (w := w5) Try.underlying44 Try.underlying5 Try.underlying9 c HB2.out
        cases hm : isM b with
        | false =>
          have HM := hide hm
          have hne := txt_ne (a := mbS (rdL4 b)) (b := b) (fun e => by
            rw [key.1.1 ⟨hg, e⟩] at hm
            cases hm)
          clear key hg hm hb64
          have hz16 : (Try.prog.info? 61).map (·.size) = some (#[.int .i64 0, .int .i64 0, .int .i64 0, .int .i64 0, .int .i64 0, .int .i64 0, .int .i64 0, .int .i64 0, .int .i64 0, .int .i64 0, .int .i64 0, .int .i64 0, .int .i64 0, .int .i64 0, .int .i64 0, .int .i64 0] : Array Value).size := hi16M
          have hz1 : (#[.int .i64 0, .int .i64 0, .int .i64 0, .int .i64 0, .int .i64 0, .int .i64 0, .int .i64 0, .int .i64 0, .int .i64 0, .int .i64 0, .int .i64 0, .int .i64 0, .int .i64 0, .int .i64 0, .int .i64 0, .int .i64 0] : Array Value).all (·.oneCell') = true := by rw [← zer8_cells]; exact fl8_one _
          go_upto_region 12 with fail
          clear e1 e2 hne
          go_wp2_with ((refine wpList_store_row (by rfl) 61 (.tmp 2) (.tmp 70) (by rfl) g2 #[.int .i64 0, .int .i64 0, .int .i64 0, .int .i64 0, .int .i64 0, .int .i64 0, .int .i64 0, .int .i64 0, .int .i64 0, .int .i64 0, .int .i64 0, .int .i64 0, .int .i64 0, .int .i64 0, .int .i64 0, .int .i64 0] (by rfl) (by rfl) 61 #[.int .i64 0, .int .i64 0, .int .i64 0, .int .i64 0, .int .i64 0, .int .i64 0, .int .i64 0, .int .i64 0, .int .i64 0, .int .i64 0, .int .i64 0, .int .i64 0, .int .i64 0, .int .i64 0, .int .i64 0, .int .i64 0] X2.out hz16 (by rfl) hz1 ?_))
          refine ret_rm (g := g2) rfl rfl (setRow_heap _ _ _ _ _ _ X2.out) rfl ⟨?_, below_setRow BW.out G.out.1 _⟩
          unfold RmAns
          rw [if_neg (by rw [HM.out]; decide), if_neg (by rw [HM.out]; decide), zer8_cells]
          rfl
        | true =>
          have HM := hide hm
          have hne : ((txt (mbS (rdL4 b))).toList == (txt b).toList) = true := by
            rw [(key.1.2 hm).2]
            exact txt_eq b
          have HK := hide (key.2 hm)
          clear key hg hm hb64
          have hz2 : (#[.int .i64 0, .int .i64 0, .int .i64 0, .int .i64 0, .int .i64 0, .int .i64 0, .int .i64 0, .int .i64 0, .int .i64 0, .int .i64 0, .int .i64 0, .int .i64 0, .int .i64 0, .int .i64 0, .int .i64 0, .int .i64 0] : Array Value).size = cs.size := by rw [HCS.out.2]; rfl
          have hz1 : cs.all (·.oneCell') = true := by rw [HCS.out.1]; exact fl8_one _
          have HZ := hide (And.intro hz2 hz1)
          clear hz2 hz1
          go_upto_region 13 with fail
          clear e1 e2 hne
          go_wp2_with (first | (refine wpList_load_row (by rfl) 61 (.tmp 4) (by rfl) g4 (by rfl) 61 cs (0, 0) _ X4.out Try.underlying61 rfl HI.out ?_) | (refine wpList_store_row (by rfl) 61 (.tmp 2) (.tmp 71) (by rfl) g2 cs (by rfl) (by rfl) 61 #[.int .i64 0, .int .i64 0, .int .i64 0, .int .i64 0, .int .i64 0, .int .i64 0, .int .i64 0, .int .i64 0, .int .i64 0, .int .i64 0, .int .i64 0, .int .i64 0, .int .i64 0, .int .i64 0, .int .i64 0, .int .i64 0] X2.out HI.out HZ.out.1 HZ.out.2 ?_))
          refine ret_rm (g := g2) rfl rfl (setRow_heap _ _ _ _ _ _ X2.out) HCS.out.2 ⟨?_, below_setRow BW.out G.out.1 _⟩
          unfold RmAns
          rw [if_pos HM.out, if_pos HM.out, ← HK.out, ← HCS.out.1]
          rfl
    have h8 : (i : Int) < 8 := by omega
    obtain ⟨s, hs⟩ : ∃ s, s = 8 * i := ⟨_, rfl⟩
    have hs56 : s ≤ 56 := by omega
    have HS := hide hs
    have hw8 : IntKind.i64.wrap (8 * (i : Int)) = (s : Int) := by rw [IntKind.wrap_i64]; omega
    clear hs
    obtain ⟨L, hL⟩ : ∃ L, L = 64 - s := ⟨_, rfl⟩
    have hcut := run_cut_l (P := Try.prog) etyB (some ⟨bb, ob, none⟩) 64 c wr s .i64 (by omega)
    rw [show cutA (some ⟨bb, ob, none⟩) c s = some ⟨bb, ob + s, none⟩ by unfold cutA; rw [if_neg (by have := HC.out.1; omega)]; show some (Addr.add _ _) = _; rw [Addr.add_mid], ← hL] at hcut
    have l0 : (0 : Int) < (L : Int) := by omega
    have l1 : (1 : Int) < (L : Int) := by omega
    have l2 : (2 : Int) < (L : Int) := by omega
    have l3 : (3 : Int) < (L : Int) := by omega
    have l4 : (4 : Int) < (L : Int) := by omega
    have l5 : (5 : Int) < (L : Int) := by omega
    have n0 : 0 < L := by omega
    have n1 : 1 < L := by omega
    have n2 : 2 < L := by omega
    have n3 : 3 < L := by omega
    have n4 : 4 < L := by omega
    have n5 : 5 < L := by omega
    clear hL
    have hcl : ∀ k, k < 8 → wr.cell? ⟨bb, ob + s + k, none⟩ = some (.int .u8 ((nb b (s + k) : Nat) : Int)) := fun k hk => by
      have h := HBY.out (s + k) (by omega)
      rw [← Nat.add_assoc] at h
      exact (BW.out.cell (cell_lt h)).trans h
    obtain ⟨x0, hx0⟩ : ∃ x, x = nb b s := ⟨_, rfl⟩
    obtain ⟨x1, hx1⟩ : ∃ x, x = nb b (s + 1) := ⟨_, rfl⟩
    obtain ⟨x2, hx2⟩ : ∃ x, x = nb b (s + 2) := ⟨_, rfl⟩
    obtain ⟨x3, hx3⟩ : ∃ x, x = nb b (s + 3) := ⟨_, rfl⟩
    obtain ⟨x4, hx4⟩ : ∃ x, x = nb b (s + 4) := ⟨_, rfl⟩
    obtain ⟨x5, hx5⟩ : ∃ x, x = nb b (s + 5) := ⟨_, rfl⟩
    have b0 : x0 < 256 := by rw [hx0]; exact nb_lt _ _
    have b1 : x1 < 256 := by rw [hx1]; exact nb_lt _ _
    have b2 : x2 < 256 := by rw [hx2]; exact nb_lt _ _
    have b3 : x3 < 256 := by rw [hx3]; exact nb_lt _ _
    have b4 : x4 < 256 := by rw [hx4]; exact nb_lt _ _
    have b5 : x5 < 256 := by rw [hx5]; exact nb_lt _ _
    have hcc : wr.cell? ⟨bb, ob + s, none⟩ = some (.int .u8 (x0 : Int)) ∧ wr.cell? ⟨bb, ob + s + 1, none⟩ = some (.int .u8 (x1 : Int)) ∧ wr.cell? ⟨bb, ob + s + 2, none⟩ = some (.int .u8 (x2 : Int)) ∧ wr.cell? ⟨bb, ob + s + 3, none⟩ = some (.int .u8 (x3 : Int)) ∧ wr.cell? ⟨bb, ob + s + 4, none⟩ = some (.int .u8 (x4 : Int)) ∧ wr.cell? ⟨bb, ob + s + 5, none⟩ = some (.int .u8 (x5 : Int)) := by
      rw [hx0, hx1, hx2, hx3, hx4, hx5]
      exact ⟨hcl 0 (by decide), hcl 1 (by decide), hcl 2 (by decide), hcl 3 (by decide), hcl 4 (by decide), hcl 5 (by decide)⟩
    have HX := hide (And.intro hx0 (And.intro hx1 (And.intro hx2 (And.intro hx3 (And.intro hx4 hx5)))))
    clear hcl hx0 hx1 hx2 hx3 hx4 hx5
    obtain ⟨y1, hy1⟩ : ∃ y, y = x1 * 256 := ⟨_, rfl⟩
    obtain ⟨y2, hy2⟩ : ∃ y, y = x2 * 65536 := ⟨_, rfl⟩
    obtain ⟨y3, hy3⟩ : ∃ y, y = x3 * 16777216 := ⟨_, rfl⟩
    obtain ⟨y5, hy5⟩ : ∃ y, y = x5 * 256 := ⟨_, rfl⟩
    obtain ⟨a1, ha1⟩ : ∃ y, y = x0 + y1 := ⟨_, rfl⟩
    obtain ⟨a2, ha2⟩ : ∃ y, y = a1 + y2 := ⟨_, rfl⟩
    obtain ⟨a3, ha3⟩ : ∃ y, y = a2 + y3 := ⟨_, rfl⟩
    obtain ⟨v5, hv5⟩ : ∃ y, y = x4 + y5 := ⟨_, rfl⟩
    have HY := hide (show a3 = x0 + 256 * x1 + 65536 * x2 + 16777216 * x3 ∧ v5 = x4 + 256 * x5 by omega)
    have wx0 : IntKind.i64.wrap (x0 : Int) = (x0 : Int) := by rw [IntKind.wrap_i64]; omega
    have wx1 : IntKind.i64.wrap (x1 : Int) = (x1 : Int) := by rw [IntKind.wrap_i64]; omega
    have wx2 : IntKind.i64.wrap (x2 : Int) = (x2 : Int) := by rw [IntKind.wrap_i64]; omega
    have wx3 : IntKind.i64.wrap (x3 : Int) = (x3 : Int) := by rw [IntKind.wrap_i64]; omega
    have wx4 : IntKind.i64.wrap (x4 : Int) = (x4 : Int) := by rw [IntKind.wrap_i64]; omega
    have wx5 : IntKind.i64.wrap (x5 : Int) = (x5 : Int) := by rw [IntKind.wrap_i64]; omega
    have wy1 : IntKind.i64.wrap ((x1 : Int) * 256) = (y1 : Int) := by rw [IntKind.wrap_i64]; omega
    have wy2 : IntKind.i64.wrap ((x2 : Int) * 65536) = (y2 : Int) := by rw [IntKind.wrap_i64]; omega
    have wy3 : IntKind.i64.wrap ((x3 : Int) * 16777216) = (y3 : Int) := by rw [IntKind.wrap_i64]; omega
    have wy5 : IntKind.i64.wrap ((x5 : Int) * 256) = (y5 : Int) := by rw [IntKind.wrap_i64]; omega
    have o1 : bits BinOp.or IntKind.i64 (x0 : Int) (y1 : Int) = (a1 : Int) := by
      have := or_num x0 x1 1 (by omega) b1 (by decide)
      rw [ha1, hy1]
      exact this
    have o2 : bits BinOp.or IntKind.i64 (a1 : Int) (y2 : Int) = (a2 : Int) := by
      have := or_num a1 x2 2 (by omega) b2 (by decide)
      rw [ha2, hy2]
      exact this
    have o3 : bits BinOp.or IntKind.i64 (a2 : Int) (y3 : Int) = (a3 : Int) := by
      have := or_num a2 x3 3 (by omega) b3 (by decide)
      rw [ha3, hy3]
      exact this
    have o4 : bits BinOp.or IntKind.i64 (x4 : Int) (y5 : Int) = (v5 : Int) := by
      have := or_num x4 x5 1 (by omega) b5 (by decide)
      rw [hv5, hy5]
      exact this
    clear hy1 hy2 hy3 hy5 ha1 ha2 ha3 hv5 b0 b1 b2 b3 b4 b5
    go_upto_region 8 with fail
    refine wp_region_noPanic ?_
    refine wp_region_last (n := 35) (S := (fun w' => w'.cell? ⟨bb, ob + s, none⟩ = some (.int .u8 (x0 : Int)) ∧ w'.cell? ⟨bb, ob + s + 1, none⟩ = some (.int .u8 (x1 : Int)) ∧ w'.cell? ⟨bb, ob + s + 2, none⟩ = some (.int .u8 (x2 : Int)) ∧ w'.cell? ⟨bb, ob + s + 3, none⟩ = some (.int .u8 (x3 : Int)) ∧ w'.cell? ⟨bb, ob + s + 4, none⟩ = some (.int .u8 (x4 : Int)) ∧ w'.cell? ⟨bb, ob + s + 5, none⟩ = some (.int .u8 (x5 : Int)))) (by kernel_rfl) (by rfl) (by kernel_rfl) ?_ (fun hHeld => ?_)
    · ((try dsimp only) <;> (first | trivial | assumption | go_keep))
    clear hcc
    refine tk 0 ?_
    refine tk 1 ?_
    refine tk 2 ?_
    refine tk 3 ?_
    refine tk 4 ?_
    refine tk 5 ?_
    refine tk 6 ?_
    refine tk 7 ?_
    refine tk 8 ?_
    refine tk 9 ?_
    refine tk 10 ?_
    refine tk 11 ?_
    refine tk 12 ?_
    refine tk 13 ?_
    refine tk 14 ?_
    refine tk 15 ?_
    refine tk 16 ?_
    refine tk 17 ?_
    refine tk 18 ?_
    refine tk 19 ?_
    refine tk 20 ?_
    refine tk 21 ?_
    refine tk 22 ?_
    refine tk 23 ?_
    refine tk 24 ?_
    refine tk 25 ?_
    refine tk 26 ?_
    refine tk 27 ?_
    refine tk 28 ?_
    refine tk 29 ?_
    refine tk 30 ?_
    refine tk 31 ?_
    refine tk 32 ?_
    refine tk 33 ?_
    refine tk 34 ?_
    clear hHeld hcut wx0 wx1 wx2 wx3 wx4 wx5 wy1 wy2 wy3 wy5 o1 o2 o3 o4 hw8
    replace X4 := hide X4.out.drew
    replace X2 := hide X2.out.drew
    replace BW := hide BW.out.drew
    generalize wr.drew = w3 at *
    have hsz : i * 2 + 1 < (fl meC (rdF (rdE4 b) i)).size := by rw [fl_size meC_len, rdF_len]; omega
    obtain ⟨c0, c1⟩ := me_cells X4.out (j := i) (e := (0, 0)) (by rw [rdF, List.getElem?_map, List.getElem?_range hlt, Option.map_some, if_neg (Nat.lt_irrefl _)])
    have z0 := X4.out.frozen (i * 2)
    have z1 := X4.out.frozen (i * 2 + 1)
    refine wpAnyH_done (by kernel_rfl) ?_ _
    refine LastQ.step (by simp only [List.getElem?_toArray, List.getElem?_cons_succ, List.getElem?_cons_zero]; rfl) (by rfl) ?_
    go_simp
    refine NoPanic.normal ?_
    have hre : rdE4 b i = (a3, v5) := by
      obtain ⟨e0, e1, e2, e3, e4, e5⟩ := HX.out
      unfold rdE4
      rw [← HS.out, ← e0, ← e1, ← e2, ← e3, ← e4, ← e5, HY.out.1, HY.out.2]
    have XF := (X4.out.set (i * 2) (.int .i64 (a3 : Int))).set (i * 2 + 1) (.int .i64 (v5 : Int))
    rw [meC_set (rdF (rdE4 b) i) i (by rw [rdF_len]; exact hlt) (a3, v5), ← hre, rdF_set _ _ hlt] at XF
    have XF2 := (X2.out.far (p := ⟨g4, i * 2, none⟩) G.out.2.2 (.int .i64 (a3 : Int))).far (p := ⟨g4, i * 2 + 1, none⟩) G.out.2.2 (.int .i64 (v5 : Int))
    have BF := (BW.out.setCell (p := ⟨g4, i * 2, none⟩) G.out.2.1 (.int .i64 (a3 : Int))).setCell (p := ⟨g4, i * 2 + 1, none⟩) G.out.2.1 (.int .i64 (v5 : Int))
    generalize (w3.setCell ⟨g4, i * 2, none⟩ (.int .i64 (a3 : Int))).setCell ⟨g4, i * 2 + 1, none⟩ (.int .i64 (v5 : Int)) = w4 at *
    have HF := hide (And.intro XF (And.intro XF2 BF))
    clear XF XF2 BF hre c0 c1 z0 z1 hsz X4 X2 BW
    go_wp2_with fail
    go_roundw
    case rel => exact ⟨i + 1, hlt, by go_num, HF.out.1, HF.out.2.1, HF.out.2.2⟩
    case measure => simp [intOf]; omega
end Go.Proofs.Ytbmblofhogihdaa
