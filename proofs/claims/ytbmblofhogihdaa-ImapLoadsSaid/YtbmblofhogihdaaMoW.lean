/- The walk of marlref11.Blocks. -/
import Derived.Test.YtbmblofhogihdaaMoS
import Derived.Test.YtbmblofhogihdaaTk
namespace Go.Proofs.Ytbmblofhogihdaa
open Go.RowKit
set_option maxRecDepth 100000
attribute [local go_sem ↓] Go.wp_at_zero Go.wp_at_succ

theorem in_cells {w : World} {g : Nat} {t : TypeId} {L : List Ent} (h : Blk w g t (fl inC L)) {j : Nat} {e : Ent} (he : L[j]? = some e) : w.cell? ⟨g, j * 4, none⟩ = some (.int .i64 (e.ver : Int)) ∧ w.cell? ⟨g, j * 4 + 1, none⟩ = some (.int .i64 (e.addr : Int)) ∧ w.cell? ⟨g, j * 4 + 2, none⟩ = some (.bool e.busy) ∧ w.cell? ⟨g, j * 4 + 3, none⟩ = some (.bool false) := by
  have h0 := fl_get inC_len L j 0 (by decide)
  have h1 := fl_get inC_len L j 1 (by decide)
  have h2 := fl_get inC_len L j 2 (by decide)
  have h3 := fl_get inC_len L j 3 (by decide)
  rw [he] at h0 h1 h2 h3
  exact ⟨by rw [h.cell]; exact h0, by rw [h.cell]; exact h1, by rw [h.cell]; exact h2, by rw [h.cell]; exact h3⟩
theorem _root_.Go.World.ownsRow.keep_farM {w : World} {base n k : Nat} {e : TypeId} {v : Value} {xs : List Value} (h : w.ownsRow base e k v n xs) {p : Addr} (hp : ∀ g, v.ownBlock = some g → g ≠ p.block) (u : Value) : (w.setCell p u).ownsRow base e k v n xs := by
  refine ⟨h.1, ?_⟩
  rcases h.2 with h0 | ⟨g, cap, cur, rfl, h2, h3, h4⟩
  · exact .inl h0
  · exact .inr ⟨g, cap, cur, rfl, h2, (Below.heap_setCell w p u g (hp g rfl)).trans h3, h4⟩
def BkAns (L : List Ent) (w : World) (r : Ending) (w' : World) : Prop :=
  ∃ A c, r = .returned (.slice A ((L.length + 7) / 8) c) ∧ w'.ownsRow w.heap.size 9 1 (.slice A ((L.length + 7) / 8) c) ((L.length + 7) / 8) (strV (bkS L ((L.length + 7) / 8))) ∧ Below w.heap.size w w'
set_option maxHeartbeats 4000000 in
theorem blocksR_any (w : World) (g n c : Nat) (L : List Ent) (hB : Blk w g 72 (fl inC L)) (hl : L.length = n) (hn : n ≤ 200) (hbd : ∀ e ∈ L, e.addr < 4096 ∧ e.ver < 65536) :
    Calls Try.prog 25 #[.agg #[.slice (some ⟨g, 0, none⟩) n c]] w (BkAns L w) := by
  have XG := hide hB
  have HL := hide hl
  have HBD := hide hbd
  have hgl := hB.lt
  clear hB hl hbd
  go_enter Try.func25, Try.ntmps25
  go_upto_region 1 with fail
  obtain ⟨w1, hw⟩ : ∃ W, W = w.alloc (.cells #[.slice (some ⟨g, 0, none⟩) n c] 48) := ⟨_, rfl⟩
  have X1 := hide (show Blk w1 w.heap.size 48 #[.slice (some ⟨g, 0, none⟩) n c] by rw [hw]; exact Blk.new _ _ _)
  replace XG := hide (show Blk w1 g 72 (fl inC L) by rw [hw]; exact XG.out.alloc _)
  have BW := hide (show Below w.heap.size w w1 by rw [hw]; exact (Below.refl _ _).alloc (Nat.le_refl _) _)
  rw [← hw]
  obtain ⟨g1, hg1⟩ : ∃ k, k = w.heap.size := ⟨_, rfl⟩
  rw [← hg1] at X1 ⊢
  clear hw hg1 hgl
  go_wp2_with fail
  go_loopw [3, 4] (fun x y wr => ∃ (j : Nat) (A : Option Addr) (c2 : Nat), j ≤ (n + 7) / 8 ∧ x = .slice A j c2 ∧ y = .int .i64 ((8 * j : Nat) : Int) ∧ wr.ownsRow w1.heap.size 9 1 (.slice A j c2) j (strV (bkS L j)) ∧ Below w1.heap.size w1 wr) (fun _ y _ => n + 7 - (intOf y).toNat)
  case atStart => exact ⟨0, none, 0, Nat.zero_le _, rfl, rfl, World.ownsRow_nil _ _ _ _, Below.refl _ _⟩
  case round =>
    obtain ⟨j, A, c2, hj, rfl, rfl, ho, hb⟩ := hrel
    have O := hide ho
    have BR := hide hb
    clear ho hb
    have y0 : wr.cell? ⟨g1, 0, none⟩ = some (.slice (some ⟨g, 0, none⟩) n c) := (X1.out.below BR.out).cell 0
    obtain ⟨s, hs⟩ : ∃ s, s = 8 * j := ⟨_, rfl⟩
    rw [← hs]
    by_cases hlt : s < n
    rotate_left
    · have hjs : ¬ (s : Int) < (n : Int) := by omega
      have he : j = (n + 7) / 8 := by omega
      have HE := hide he
      clear he hs hj
      go_wp2_with fail
      go_ret
      have o := O.out
      refine ⟨A, c2, ?_, ?_, BW.out.trans (BR.out.mono BW.out.size)⟩
      · rw [HL.out, ← HE.out]
        rfl
      · rw [HL.out, ← HE.out]
        exact own_bq o BW.out.size
    have hjs : (s : Int) < (n : Int) := by omega
    have HS := hide hs
    clear hs
    go_upto_region 6 with fail
    obtain ⟨w2, hw⟩ : ∃ W, W = wr.alloc (.cells #[.int .i64 0, .int .i64 0, .int .i64 0, .int .i64 0, .int .i64 0, .int .i64 0, .int .i64 0, .int .i64 0, .int .i64 0, .int .i64 0, .int .i64 0, .int .i64 0, .int .i64 0, .int .i64 0, .int .i64 0, .int .i64 0] 68) := ⟨_, rfl⟩
    have X5 := hide (show Blk w2 wr.heap.size 68 (fl meC (rdF (fun k => entP L (s + k)) 0)) by rw [hw]; exact Blk.new _ _ _)
    have G5 := hide BR.out.size
    have OB := hide (fun b (h : (Value.slice A j c2).ownBlock = some b) => (O.out.lt b h).2)
    replace O := hide (show w2.ownsRow w1.heap.size 9 1 (.slice A j c2) j (strV (bkS L j)) by rw [hw]; exact O.out.alloc _)
    replace BR := hide (show Below w1.heap.size w1 w2 by rw [hw]; exact BR.out.alloc BR.out.size _)
    rw [← hw]
    clear hw y0
    generalize wr.heap.size = g5 at X5 G5 OB ⊢
    go_wp2_with fail
    go_loopw [6] (fun y wr => ∃ k : Nat, k ≤ 8 ∧ y = .int .i64 (k : Int) ∧ Blk wr g5 68 (fl meC (rdF (fun k => entP L (s + k)) k)) ∧ wr.ownsRow w1.heap.size 9 1 (.slice A j c2) j (strV (bkS L j)) ∧ Below w1.heap.size w1 wr) (fun y _ => 8 - (intOf y).toNat)
    case atStart => exact ⟨0, Nat.zero_le _, rfl, X5.out, O.out, BR.out⟩
    case round =>
      obtain ⟨k, hk, rfl, hx5, ho, hb⟩ := hrel
      clear O BR X5
      have X5 := hide hx5
      have O := hide ho
      have BR := hide hb
      clear ho hb hx5
      have y0 : wr.cell? ⟨g1, 0, none⟩ = some (.slice (some ⟨g, 0, none⟩) n c) := (X1.out.below BR.out).cell 0
      have hs200 : s < 200 := by omega
      by_cases hin : k < 8 ∧ s + k < n
      · obtain ⟨hk8, hsk⟩ := hin
        have i1 : (k : Int) < 8 := by omega
        have i2 : (s : Int) + (k : Int) < (n : Int) := by omega
        obtain ⟨p, hp⟩ : ∃ p, p = s + k := ⟨_, rfl⟩
        have hpi : (s : Int) + (k : Int) = (p : Int) := by omega
        have hwp : IntKind.i64.wrap ((s : Int) + (k : Int)) = (p : Int) := by rw [IntKind.wrap_i64]; omega
        have hpn : (p : Int) < (n : Int) := by omega
        have hwq : IntKind.i64.wrap (p : Int) = (p : Int) := by rw [IntKind.wrap_i64]; omega
        have hpn0 : p < n := by omega
        obtain ⟨e, he⟩ : ∃ e, L[p]? = some e := ⟨_, List.getElem?_eq_getElem (by rw [HL.out]; exact hpn0)⟩
        obtain ⟨q0, q1, -, -⟩ := in_cells ((XG.out.below BR.out)) he
        have HE := hide he
        have HP := hide hp
        obtain ⟨ea, hea⟩ : ∃ x, x = e.addr := ⟨_, rfl⟩
        obtain ⟨ev, hev⟩ : ∃ x, x = e.ver := ⟨_, rfl⟩
        rw [← hev] at q0
        rw [← hea] at q1
        have HEV := hide (And.intro hea hev)
        clear he hp hea hev
        go_upto_region 9 with fail
        clear i2 hs200
        refine wp_region_noPanic ?_
        refine wp_region_last (n := 19) (S := (fun w' => w'.cell? ⟨g1, 0, none⟩ = some (.slice (some ⟨g, 0, none⟩) n c) ∧ w'.cell? ⟨g, p * 4, none⟩ = some (.int .i64 (ev : Int)) ∧ w'.cell? ⟨g, p * 4 + 1, none⟩ = some (.int .i64 (ea : Int)))) (by kernel_rfl) (by rfl) (by kernel_rfl) ?_ (fun hHeld => ?_)
        · ((try dsimp only) <;> (first | trivial | assumption | go_keep))
        clear y0 q0 q1
        refine tk 0 ?_
        refine tk 1 ?_
        refine tk 2 ?_
        refine tk 3 ?_
        refine tk 4 ?_
        refine tk 5 ?_
        refine tk 6 ?_
        refine tk 7 ?_
        refine tk 8 ?_
        refine tk 9 ?_
        refine tk 10 ?_
        refine tk 11 ?_
        refine tk 12 ?_
        refine tk 13 ?_
        refine tk 14 ?_
        refine tk 15 ?_
        refine tk 16 ?_
        refine tk 17 ?_
        refine tk 18 ?_
        clear hHeld hwp hwq hpi hpn hpn0
        replace X5 := hide X5.out.drew
        replace O := hide O.out.drew
        replace BR := hide BR.out.drew
        generalize wr.drew = w3 at *
        obtain ⟨c0, c1⟩ := me_cells X5.out (j := k) (e := (0, 0)) (by rw [rdF, List.getElem?_map, List.getElem?_range hk8, Option.map_some, if_neg (Nat.lt_irrefl _)])
        have z0 := X5.out.frozen (k * 2)
        have z1 := X5.out.frozen (k * 2 + 1)
        refine wpAnyH_done (by kernel_rfl) ?_ _
        refine LastQ.step (by simp only [List.getElem?_toArray, List.getElem?_cons_succ, List.getElem?_cons_zero]; rfl) (by rfl) ?_
        go_simp
        refine NoPanic.normal ?_
        have hre : (fun k => entP L (s + k)) k = (ea, ev) := by
          show entP L (s + k) = _
          rw [← HP.out, entP_in HE.out, HEV.out.1, HEV.out.2]
        have XF := (X5.out.set (k * 2) (.int .i64 (ea : Int))).set (k * 2 + 1) (.int .i64 (ev : Int))
        rw [meC_set _ k (by rw [rdF_len]; exact hk8) (ea, ev), ← hre, rdF_set _ _ hk8] at XF
        have OF := (O.out.keep_farM (p := ⟨g5, k * 2, none⟩) (fun b h => Nat.ne_of_lt (OB.out b h)) (.int .i64 (ea : Int))).keep_farM (p := ⟨g5, k * 2 + 1, none⟩) (fun b h => Nat.ne_of_lt (OB.out b h)) (.int .i64 (ev : Int))
        have BF := (BR.out.setCell (p := ⟨g5, k * 2, none⟩) G5.out (.int .i64 (ea : Int))).setCell (p := ⟨g5, k * 2 + 1, none⟩) G5.out (.int .i64 (ev : Int))
        generalize (w3.setCell ⟨g5, k * 2, none⟩ (.int .i64 (ea : Int))).setCell ⟨g5, k * 2 + 1, none⟩ (.int .i64 (ev : Int)) = w4 at *
        have HF := hide (And.intro XF (And.intro OF BF))
        clear XF OF BF hre c0 c1 z0 z1 X5 O BR
        go_wp2_with fail
        go_roundw
        case rel => exact ⟨k + 1, hk8, by go_num, HF.out.1, HF.out.2.1, HF.out.2.2⟩
        case measure => simp [intOf]; omega
      have hout : (¬ (k : Int) < 8) ∨ ((k : Int) < 8 ∧ ¬ (s : Int) + (k : Int) < (n : Int)) := by omega
      have hch := rdF_chk (L := L) (i := s) (k := k) (by rw [HL.out]; omega)
      rw [hch] at X5
      have hcb := chk_bd HBD.out s
      obtain ⟨cs, hcs⟩ : ∃ cs, cs = fl meC (chk L s) := ⟨_, rfl⟩
      have hsz : cs.size = 16 := by rw [hcs, fl_size meC_len, chk_len]
      have MB := hide (mapblockR_any wr (chk L s) (chk_len L s) hcb.1)
      rw [← hcs] at X5 MB
      have HCB := hide hcb.2
      have hi : (Try.prog.info? 68).map (·.size) = some cs.size := by rw [hsz]; exact hi16Q
      have HI := hide hi
      have hj200 : j ≤ 100 := by omega
      clear hcs hsz hch hcb hin hi
      rcases hout with i1 | ⟨i1, i2⟩
      · go_wp2_with (refine wpList_load_row (by rfl) 68 (.tmp 5) (by rfl) g5 (by rfl) 68 cs (0, 0) _ X5.out Try.underlying68 rfl HI.out ?_)
        refine MB.out.mono ?_
        rintro r w5 ⟨hr, hb5⟩
        unfold MmAns at hr
        rw [if_pos HCB.out, if_pos HCB.out] at hr
        subst hr
        have O2 := hide (own_bel O.out hb5)
        have B2 := hide (BR.out.trans (hb5.mono BR.out.size))
        clear hb5 MB O BR X5
        go_wp2_with (
          at_builtin
          refine wpList_app _ rfl (.tmp 53) (.tmp 55) _ rfl etyS w1.heap.size _ _ (strV (bkS L j)) rfl (O2.out.alloc _) (w5.heap.size + 1) (some ⟨w5.heap.size, 0, none⟩) 1 1 (strV [mbS (chk L s)]) rfl
            ?_ (strV_one _) (by omega) (by simp; exact Nat.le_succ_of_le B2.out.size) ?_
          · exact one_str _ _
          intro A' c' w6 hown hg _
          have O3 := hide hown
          have B3 := hide ((B2.out.alloc B2.out.size _).grown hg (by simp; exact Nat.le_succ_of_le B2.out.size) (fun k hk => (O2.out.lt k hk).1))
          clear hown hg)
        go_roundw
        case rel =>
          refine ⟨j + 1, A', c', by have := HS.out; omega, rfl, by have := HS.out; go_num, ?_, B3.out⟩
          have o := O3.out
          rw [← strV_snoc, HS.out, ← bkS_snoc] at o
          exact o
        case measure => simp [intOf]; omega
      · go_wp2_with (refine wpList_load_row (by rfl) 68 (.tmp 5) (by rfl) g5 (by rfl) 68 cs (0, 0) _ X5.out Try.underlying68 rfl HI.out ?_)
        refine MB.out.mono ?_
        rintro r w5 ⟨hr, hb5⟩
        unfold MmAns at hr
        rw [if_pos HCB.out, if_pos HCB.out] at hr
        subst hr
        have O2 := hide (own_bel O.out hb5)
        have B2 := hide (BR.out.trans (hb5.mono BR.out.size))
        clear hb5 MB O BR X5
        go_wp2_with (
          at_builtin
          refine wpList_app _ rfl (.tmp 53) (.tmp 55) _ rfl etyS w1.heap.size _ _ (strV (bkS L j)) rfl (O2.out.alloc _) (w5.heap.size + 1) (some ⟨w5.heap.size, 0, none⟩) 1 1 (strV [mbS (chk L s)]) rfl
            ?_ (strV_one _) (by omega) (by simp; exact Nat.le_succ_of_le B2.out.size) ?_
          · exact one_str _ _
          intro A' c' w6 hown hg _
          have O3 := hide hown
          have B3 := hide ((B2.out.alloc B2.out.size _).grown hg (by simp; exact Nat.le_succ_of_le B2.out.size) (fun k hk => (O2.out.lt k hk).1))
          clear hown hg)
        go_roundw
        case rel =>
          refine ⟨j + 1, A', c', by have := HS.out; omega, rfl, by have := HS.out; go_num, ?_, B3.out⟩
          have o := O3.out
          rw [← strV_snoc, HS.out, ← bkS_snoc] at o
          exact o
        case measure => simp [intOf]; omega
end Go.Proofs.Ytbmblofhogihdaa
