/- The walks of entry.MapEntry.bytes8, entry.all, entry.MapBlock. -/
import Derived.Test.YtbmblofhogihdaaMbS
import Derived.Test.YtbmblofhogihdaaImLawW
import Derived.Test.YtbmblofhogihdaaRowG
import Derived.Test.YtbmblofhogihdaaEty8
import Derived.Deep.DrawnRows
namespace Go.Proofs.Ytbmblofhogihdaa
open Go.RowKit
set_option maxRecDepth 100000
attribute [local go_sem ↓] Go.wp_at_zero Go.wp_at_succ

theorem op2E {w : World} {k : Nat} {t : TypeId} {x0 x1 : Value} (h : Blk w k t #[x0, x1]) : w.cell? ⟨k, 0, none⟩ = some x0 ∧ w.cell? ⟨k, 1, none⟩ = some x1 := ⟨h.cell 0, h.cell 1⟩
def EbAns (e : Nat × Nat) (w : World) (r : Ending) (w' : World) : Prop :=
  ∃ g, r = .returned (.tuple #[.slice (some ⟨g, 0, none⟩) 8 8, .bool (gdE e)]) ∧ w.heap.size ≤ g ∧ Blk w' g 5 (u8s (eb8 e)).toArray ∧ Below w.heap.size w w'
set_option maxHeartbeats 2000000 in
theorem bytes8_any (a v : Nat) (ha : a < 4294967296) (hv : v < 65536) (w : World) : Calls Try.prog 40 #[.agg #[.int .i64 (a : Int), .int .i64 (v : Int)]] w (EbAns (a, v) w) := by
  have HB := hide (And.intro ha hv)
  have h1 : (0 : Int) ≤ (a : Int) := by omega
  have h2 : (0 : Int) ≤ (v : Int) := by omega
  have h3 : (v : Int) < 65536 := by omega
  clear hv ha
  have hg : gdE (a, v) = decide ((a : Int) < 4096) := by
    unfold gdE
    rw [decide_eq_decide]
    dsimp only
    omega
  have HG := hide hg
  clear hg
  go_enter Try.func40, Try.ntmps40
  go_upto_region 1 with fail
  obtain ⟨w1, hw⟩ : ∃ W, W = w.alloc (.cells #[.int .i64 (a : Int), .int .i64 (v : Int)] 59) := ⟨_, rfl⟩
  have X1 : Hid (Blk w1 w.heap.size 59 #[.int .i64 (a : Int), .int .i64 (v : Int)]) := hide (by rw [hw]; exact Blk.new _ _ _)
  have BW : Hid (Below w.heap.size w w1) := hide (by rw [hw]; exact (Below.refl _ _).alloc (Nat.le_refl _) _)
  rw [← hw]
  generalize w.heap.size = g1 at X1 ⊢
  clear hw
  obtain ⟨y0, y1⟩ := op2E X1.out
  obtain ⟨u0, hu0⟩ : ∃ u, u = UInt8.ofNat a := ⟨_, rfl⟩
  obtain ⟨u1, hu1⟩ : ∃ u, u = UInt8.ofNat (a / 256) := ⟨_, rfl⟩
  obtain ⟨u2, hu2⟩ : ∃ u, u = UInt8.ofNat (a / 65536) := ⟨_, rfl⟩
  obtain ⟨u3, hu3⟩ : ∃ u, u = UInt8.ofNat (a / 16777216) := ⟨_, rfl⟩
  obtain ⟨u4, hu4⟩ : ∃ u, u = UInt8.ofNat v := ⟨_, rfl⟩
  obtain ⟨u5, hu5⟩ : ∃ u, u = UInt8.ofNat (v / 256) := ⟨_, rfl⟩
  have k0 := w8_nat a
  have k1 : IntKind.u8.wrap ((a : Int) / 256) = (u1.toNat : Int) := by rw [hu1]; exact w8_quo a 256
  have k2 : IntKind.u8.wrap ((a : Int) / 65536) = (u2.toNat : Int) := by rw [hu2]; exact w8_quo a 65536
  have k3 : IntKind.u8.wrap ((a : Int) / 16777216) = (u3.toNat : Int) := by rw [hu3]; exact w8_quo a 16777216
  have k4 := w8_nat v
  have k5 : IntKind.u8.wrap ((v : Int) / 256) = (u5.toNat : Int) := by rw [hu5]; exact w8_quo v 256
  rw [← hu0] at k0
  rw [← hu4] at k4
  have FIN := hide (show ∀ (b : Bool), b = gdE (a, v) → EbAns (a, v) w (.returned (.tuple #[.slice (some ⟨w1.heap.size, 0, none⟩) 8 8, .bool b])) (w1.alloc (.cells #[.int .u8 (u0.toNat : Int), .int .u8 (u1.toNat : Int), .int .u8 (u2.toNat : Int), .int .u8 (u3.toNat : Int), .int .u8 (u4.toNat : Int), .int .u8 (u5.toNat : Int), .int .u8 0, .int .u8 0] 5)) from fun b hb => by
    refine ⟨w1.heap.size, by rw [hb], BW.out.size, ?_, BW.out.alloc BW.out.size _⟩
    rw [hu0, hu1, hu2, hu3, hu4, hu5]
    exact Blk.new _ _ _)
  clear hu0 hu1 hu2 hu3 hu4 hu5
  by_cases h4 : (a : Int) < 4096
  · have hb : true = gdE (a, v) := by rw [HG.out, decide_eq_true h4]
    have HB4 := hide hb
    clear hb
    go_wp2_with fail
    go_ret2
    exact FIN.out _ HB4.out
  · have hb : false = gdE (a, v) := by rw [HG.out, decide_eq_false h4]
    have HB4 := hide hb
    clear hb
    go_wp2_with fail
    go_ret2
    exact FIN.out _ HB4.out
def meC (e : Nat × Nat) : List Value := [.int .i64 (e.1 : Int), .int .i64 (e.2 : Int)]
theorem meC_len (e : Nat × Nat) : (meC e).length = 2 := rfl
theorem me_cells {w : World} {g : Nat} {t : TypeId} {l : List (Nat × Nat)} (h : Blk w g t (fl meC l)) {j : Nat} {e : Nat × Nat} (he : l[j]? = some e) : w.cell? ⟨g, j * 2, none⟩ = some (.int .i64 (e.1 : Int)) ∧ w.cell? ⟨g, j * 2 + 1, none⟩ = some (.int .i64 (e.2 : Int)) := by
  have h0 := fl_get meC_len l j 0 (by decide)
  have h1 := fl_get meC_len l j 1 (by decide)
  rw [he] at h0 h1
  exact ⟨by rw [h.cell]; exact h0, by rw [h.cell]; exact h1⟩
theorem sl_blkM {w : World} {g n : Nat} {t : TypeId} {l : List UInt8} (h : Blk w g t (u8s l).toArray) (hn : l.length = n) : Sl w w.heap.size (some ⟨g, 0, none⟩) n (u8s l) := by
  refine ⟨by simp [u8s, hn], fun i u hu => ⟨_, rfl, h.lt, ?_⟩⟩
  rw [Addr.add_mid, Nat.zero_add, h.cell]
  simpa using hu
abbrev OwnByM (w : World) (base : Nat) (A : Option Addr) (n c : Nat) (l : List UInt8) : Prop := w.ownsRow base 5 1 (.slice A n c) n (u8s l)
def AllAns (l : List (Nat × Nat)) (w : World) (r : Ending) (w' : World) : Prop :=
  if l.all gdE = true then ∃ A c, r = .returned (.tuple #[.slice A (8 * l.length) c, .int .i64 0]) ∧ OwnByM w' w.heap.size A (8 * l.length) c (mbS l) ∧ Below w.heap.size w w'
  else r = .returned (.tuple #[.slice none 0 0, .int .i64 22]) ∧ Below w.heap.size w w'
theorem all_no {l : List (Nat × Nat)} {j : Nat} {e : Nat × Nat} (h : l[j]? = some e) (hg : gdE e = false) : ¬ l.all gdE = true := fun h1 => by
  have := List.all_eq_true.1 h1 e (List.mem_of_getElem? h)
  rw [hg] at this
  cases this
set_option maxHeartbeats 2000000 in
theorem all_any (w : World) (g n c : Nat) (t : TypeId) (l : List (Nat × Nat)) (hB : Blk w g t (fl meC l)) (hl : l.length = n) (hn : n ≤ 1000) (hbd : ∀ e ∈ l, e.1 < 4294967296 ∧ e.2 < 65536) :
    Calls Try.prog 39 #[.slice (some ⟨g, 0, none⟩) n c, .func (.func 40) #[] #[]] w (AllAns l w) := by
  have XG := hide hB
  have HL := hide hl
  have HBD := hide hbd
  clear hB hl hbd
  go_enter Try.func39, Try.ntmps39
  go_wp2_with fail
  go_loopw [6, 13] (fun x y wr => ∃ (j : Nat) (A : Option Addr) (c : Nat) (m : Nat), x = .slice A m c ∧ y = .int .i64 (j : Int) ∧ j ≤ n ∧ m = 8 * j ∧ (l.take j).all gdE = true ∧ OwnByM wr w.heap.size A m c (mbS (l.take j)) ∧ Below w.heap.size w wr) (fun _ y _ => n - (intOf y).toNat)
  case atStart => exact ⟨0, none, 0, 0, rfl, rfl, Nat.zero_le _, rfl, rfl, World.ownsRow_nil _ _ _ _, Below.refl _ _⟩
  case round =>
    obtain ⟨j, A, c1, m, rfl, rfl, hj, hm, hall, ho, hb⟩ := hrel
    have HM := hide hm
    have HALL := hide hall
    have O := hide ho
    have BW := hide hb
    clear hm hall ho hb
    by_cases hlt : j < n
    rotate_left
    · have hjs : ¬ (j : Int) < (n : Int) := by omega
      obtain rfl : j = n := by omega
      go_wp2_with fail
      go_ret2
      have e : l.take j = l := List.take_of_length_le (by rw [HL.out]; exact Nat.le_refl _)
      have e2 := HALL.out
      have e3 := O.out
      rw [e] at e2 e3
      unfold AllAns
      rw [if_pos e2]
      rw [HM.out, ← HL.out] at e3
      exact ⟨A, c1, by rw [HL.out, HM.out]; rfl, e3, BW.out⟩
    have hjs : (j : Int) < (n : Int) := by omega
    obtain ⟨e, he⟩ : ∃ e, l[j]? = some e := ⟨_, List.getElem?_eq_getElem (by rw [HL.out]; exact hlt)⟩
    obtain ⟨y0, y1⟩ := me_cells (XG.out.below BW.out) he
    obtain ⟨a, v⟩ := e
    have HE := hide he
    have hav := HBD.out _ (List.mem_of_getElem? he)
    have BA := hide (fun W : World => bytes8_any a v hav.1 hav.2 W)
    clear he hav
    go_wp2_with fail
    clear y0 y1
    refine (BA.out _).mono ?_
    rintro r w3 ⟨g', rfl, hg', hbk, hb⟩
    have XB := hide (sl_blkM hbk (eb8_len _))
    have B3 := hide (BW.out.trans ((((Below.refl wr.heap.size wr).alloc (Nat.le_refl _) _).trans (hb.mono (by simp))).mono BW.out.size))
    replace O := hide (own_bel O.out (((Below.refl wr.heap.size wr).alloc (Nat.le_refl _) _).trans (hb.mono (by simp))))
    clear hb hg' hbk BA
    cases hge : gdE (a, v) with
    | false =>
      have HG := hide hge
      clear hge
      go_wp2_with fail
      go_ret2
      unfold AllAns
      rw [if_neg (all_no HE.out HG.out)]
      exact ⟨rfl, B3.out⟩
    | true =>
      have HG := hide hge
      clear hge
      have hm8000 : m ≤ 8000 := by have := HM.out; omega
      go_wp2_with (
        at_builtin
        refine wpList_app _ rfl (.tmp 25) (.tmp 26) _ rfl etyB w.heap.size (.slice A m c1) m _ rfl O.out w3.heap.size (some ⟨g', 0, none⟩) 8 8 (u8s (eb8 (a, v))) rfl XB.out (u8s_one _) (by omega) B3.out.size ?_
        intro A3 c3 w4 ho hg ha
        have O3 := hide ho
        have B4 := hide (B3.out.grown hg B3.out.size (fun g hg => (O.out.lt g hg).1))
        clear ho hg ha)
      go_roundw
      case rel =>
        refine ⟨j + 1, A3, c3, m + 8, rfl, by go_num, hlt, by have := HM.out; omega, ?_, ?_, B4.out⟩
        · rw [List.take_succ_eq_append_getElem (by rw [HL.out]; exact hlt), List.all_append, HALL.out]
          have := (List.getElem?_eq_some_iff.1 HE.out).2
          rw [this]
          simp [HG.out]
        · rw [List.take_succ_eq_append_getElem (by rw [HL.out]; exact hlt), (List.getElem?_eq_some_iff.1 HE.out).2, mbS_snoc]
          unfold OwnByM
          rw [show u8s (mbS (l.take j) ++ eb8 (a, v)) = u8s (mbS (l.take j)) ++ u8s (eb8 (a, v)) by simp [u8s]]
          exact O3.out
      case measure => simp [intOf]; omega
theorem own_bq7 {w : World} {base base' n k : Nat} {e : TypeId} {v : Value} {xs : List Value} (h : w.ownsRow base e k v n xs) (hb : base' ≤ base) : w.ownsRow base' e k v n xs :=
  ⟨h.1, h.2.imp id (fun ⟨g, cap, cur, h1, h2, h3⟩ => ⟨g, cap, cur, h1, Nat.le_trans hb h2, h3⟩)⟩
/-- MapBlock of eight entries. -/
theorem mapblock_any (w : World) (l : List (Nat × Nat)) (hl : l.length = 8) (hbd : ∀ e ∈ l, e.1 < 4294967296 ∧ e.2 < 65536) :
    Calls Try.prog 35 #[.agg (fl meC l)] w (AllAns l w) := by
  have HL := hide hl
  have HBD := hide hbd
  clear hl hbd
  obtain ⟨cs, hcs⟩ : ∃ cs, cs = fl meC l := ⟨_, rfl⟩
  rw [← hcs]
  have HCS := hide hcs
  clear hcs
  go_enter Try.func35, Try.ntmps35
  go_wp2_with fail
  have BA := (Below.refl w.heap.size w).alloc (Nat.le_refl _) (.cells cs 61)
  have AA := hide (all_any (w.alloc (.cells cs 61)) w.heap.size 8 8 61 l (by rw [← HCS.out]; exact Blk.new _ _ _) HL.out (by decide) HBD.out)
  refine AA.out.mono ?_
  rintro r w2 h
  unfold AllAns at h
  have HLE := hide HL.out
  by_cases hg : l.all gdE = true
  · rw [if_pos hg] at h
    obtain ⟨A, c, rfl, ho, hb⟩ := h
    have O := hide (own_bq7 ho (show w.heap.size ≤ _ by simp))
    have BB := hide (BA.trans (hb.mono (by simp)))
    have HG := hide hg
    clear ho hb hg AA BA
    go_wp2_with fail
    go_ret2
    unfold AllAns
    rw [if_pos HG.out]
    exact ⟨A, c, rfl, O.out, BB.out⟩
  · rw [if_neg hg] at h
    obtain ⟨rfl, hb⟩ := h
    have BB := hide (BA.trans (hb.mono (by simp)))
    have HG := hide hg
    clear hb hg AA BA
    go_wp2_with fail
    go_ret2
    unfold AllAns
    rw [if_neg HG.out]
    exact ⟨rfl, BB.out⟩
end Go.Proofs.Ytbmblofhogihdaa
