/- The walk of imap.Load. -/
import Derived.Test.YtbmblofhogihdaaMlS
import Derived.Test.YtbmblofhogihdaaMqW
import Derived.Test.YtbmblofhogihdaaRowsR
namespace Go.Proofs.Ytbmblofhogihdaa
open Go.RowKit
set_option maxRecDepth 100000
attribute [local go_sem ↓] Go.wp_at_zero Go.wp_at_succ

/-- A list of blocks of bytes. -/
def BlsAt (w : World) (A : Option Addr) (m : Nat) (bs : List (List UInt8)) : Prop :=
  ∃ rs : List RowB, bs = rs.map RowB.l ∧ Sl w w.heap.size A m (rs.map RowB.v) ∧ ∀ r ∈ rs, By w w.heap.size r.a r.n r.l ∧ r.n ≤ r.c ∧ r.c ≤ 9223372036854775807
theorem BlsAt.kp {w w' : World} {A : Option Addr} {m : Nat} {bs : List (List UInt8)} (h : BlsAt w A m bs) (hb : Below w.heap.size w w') : BlsAt w' A m bs := by
  obtain ⟨rs, h1, h2, h3⟩ := h
  exact ⟨rs, h1, (h2.below hb).more hb.size, fun r hr => ⟨((h3 r hr).1.below hb).more hb.size, (h3 r hr).2⟩⟩
theorem BlsAt.len {w : World} {A : Option Addr} {m : Nat} {bs : List (List UInt8)} (h : BlsAt w A m bs) : bs.length = m := by
  obtain ⟨rs, rfl, h2, -⟩ := h
  have := h2.len
  simpa using this
theorem BlsAt.get {w : World} {A : Option Addr} {m : Nat} {bs : List (List UInt8)} (h : BlsAt w A m bs) {i : Nat} (hi : i < m) :
    ∃ ad B n c b, A = some ad ∧ bs[i]? = some b ∧ w.cell? (ad.add i) = some (.slice B n c) ∧ By w w.heap.size B n b ∧ n ≤ c ∧ c ≤ 9223372036854775807 := by
  obtain ⟨rs, rfl, h2, h3⟩ := h
  obtain ⟨ad, u, rfl, -, hu, hc⟩ := h2.get hi
  rw [List.getElem?_map] at hu
  obtain ⟨r, hr, rfl⟩ := Option.map_eq_some_iff.1 hu
  obtain ⟨k1, k2, k3⟩ := h3 r (List.mem_of_getElem? hr)
  exact ⟨ad, r.a, r.n, r.c, r.l, rfl, by rw [List.getElem?_map, hr, Option.map_some], hc, k1, k2, k3⟩
theorem Imp.set_lb {tm te tb : TypeId} {w : World} {m l b d : Nat} {L : List Ent} {D : List Bool} (h : Imp tm te tb w m l b d L D) (i : Nat) (e : Ent) :
    Imp tm te tb (((w.setCell ⟨l, i * 2, none⟩ (.int .i64 (e.addr : Int))).setCell ⟨l, i * 2 + 1, none⟩ (.int .i64 (e.ver : Int))).setCell ⟨b, i, none⟩ (.bool e.busy)) m l b d (L.set i e) D :=
  { h with
    hm := by
      have := ((h.hm.far (p := ⟨l, i * 2, none⟩) h.ml (.int .i64 (e.addr : Int))).far (p := ⟨l, i * 2 + 1, none⟩) h.ml (.int .i64 (e.ver : Int))).far (p := ⟨b, i, none⟩) h.mb (.bool e.busy)
      simpa using this
    hl := by
      rw [← entC_set]
      exact ((h.hl.set (i * 2) (.int .i64 (e.addr : Int))).set (i * 2 + 1) (.int .i64 (e.ver : Int))).far (p := ⟨b, i, none⟩) h.lb (.bool e.busy)
    hb := by
      rw [← bsy_set L i e.busy e rfl]
      exact ((h.hb.far (p := ⟨l, i * 2, none⟩) h.lb.symm (.int .i64 (e.addr : Int))).far (p := ⟨l, i * 2 + 1, none⟩) h.lb.symm (.int .i64 (e.ver : Int))).set i (.bool e.busy)
    hd := ((h.hd.far (p := ⟨l, i * 2, none⟩) h.ld.symm (.int .i64 (e.addr : Int))).far (p := ⟨l, i * 2 + 1, none⟩) h.ld.symm (.int .i64 (e.ver : Int))).far (p := ⟨b, i, none⟩) h.bd.symm (.bool e.busy)
    n := by simpa using h.n
    k := by simpa using h.k }
theorem idx8L_0 (a0 v0 a1 v1 a2 v2 a3 v3 a4 v4 a5 v5 a6 v6 a7 v7 : Nat) (W : World) : (Instr.index 61 (.agg (fl meC [(a0, v0), (a1, v1), (a2, v2), (a3, v3), (a4, v4), (a5, v5), (a6, v6), (a7, v7)])) (.int .i64 0)).run Try.prog W = .ok (.agg #[.int .i64 (a0 : Int), .int .i64 (v0 : Int)]) W := by kernel_rfl
theorem idx8L_1 (a0 v0 a1 v1 a2 v2 a3 v3 a4 v4 a5 v5 a6 v6 a7 v7 : Nat) (W : World) : (Instr.index 61 (.agg (fl meC [(a0, v0), (a1, v1), (a2, v2), (a3, v3), (a4, v4), (a5, v5), (a6, v6), (a7, v7)])) (.int .i64 1)).run Try.prog W = .ok (.agg #[.int .i64 (a1 : Int), .int .i64 (v1 : Int)]) W := by kernel_rfl
theorem idx8L_2 (a0 v0 a1 v1 a2 v2 a3 v3 a4 v4 a5 v5 a6 v6 a7 v7 : Nat) (W : World) : (Instr.index 61 (.agg (fl meC [(a0, v0), (a1, v1), (a2, v2), (a3, v3), (a4, v4), (a5, v5), (a6, v6), (a7, v7)])) (.int .i64 2)).run Try.prog W = .ok (.agg #[.int .i64 (a2 : Int), .int .i64 (v2 : Int)]) W := by kernel_rfl
theorem idx8L_3 (a0 v0 a1 v1 a2 v2 a3 v3 a4 v4 a5 v5 a6 v6 a7 v7 : Nat) (W : World) : (Instr.index 61 (.agg (fl meC [(a0, v0), (a1, v1), (a2, v2), (a3, v3), (a4, v4), (a5, v5), (a6, v6), (a7, v7)])) (.int .i64 3)).run Try.prog W = .ok (.agg #[.int .i64 (a3 : Int), .int .i64 (v3 : Int)]) W := by kernel_rfl
theorem idx8L_4 (a0 v0 a1 v1 a2 v2 a3 v3 a4 v4 a5 v5 a6 v6 a7 v7 : Nat) (W : World) : (Instr.index 61 (.agg (fl meC [(a0, v0), (a1, v1), (a2, v2), (a3, v3), (a4, v4), (a5, v5), (a6, v6), (a7, v7)])) (.int .i64 4)).run Try.prog W = .ok (.agg #[.int .i64 (a4 : Int), .int .i64 (v4 : Int)]) W := by kernel_rfl
theorem idx8L_5 (a0 v0 a1 v1 a2 v2 a3 v3 a4 v4 a5 v5 a6 v6 a7 v7 : Nat) (W : World) : (Instr.index 61 (.agg (fl meC [(a0, v0), (a1, v1), (a2, v2), (a3, v3), (a4, v4), (a5, v5), (a6, v6), (a7, v7)])) (.int .i64 5)).run Try.prog W = .ok (.agg #[.int .i64 (a5 : Int), .int .i64 (v5 : Int)]) W := by kernel_rfl
theorem idx8L_6 (a0 v0 a1 v1 a2 v2 a3 v3 a4 v4 a5 v5 a6 v6 a7 v7 : Nat) (W : World) : (Instr.index 61 (.agg (fl meC [(a0, v0), (a1, v1), (a2, v2), (a3, v3), (a4, v4), (a5, v5), (a6, v6), (a7, v7)])) (.int .i64 6)).run Try.prog W = .ok (.agg #[.int .i64 (a6 : Int), .int .i64 (v6 : Int)]) W := by kernel_rfl
theorem idx8L_7 (a0 v0 a1 v1 a2 v2 a3 v3 a4 v4 a5 v5 a6 v6 a7 v7 : Nat) (W : World) : (Instr.index 61 (.agg (fl meC [(a0, v0), (a1, v1), (a2, v2), (a3, v3), (a4, v4), (a5, v5), (a6, v6), (a7, v7)])) (.int .i64 7)).run Try.prog W = .ok (.agg #[.int .i64 (a7 : Int), .int .i64 (v7 : Int)]) W := by kernel_rfl
theorem idx8M {l : List (Nat × Nat)} (hl : l.length = 8) {k : Nat} {e : Nat × Nat} (h : l[k]? = some e) (W : World) : (Instr.index 61 (.agg (fl meC l)) (.int .i64 (k : Int))).run Try.prog W = .ok (.agg #[.int .i64 (e.1 : Int), .int .i64 (e.2 : Int)]) W := by
  match l, hl with
  | [(a0, v0), (a1, v1), (a2, v2), (a3, v3), (a4, v4), (a5, v5), (a6, v6), (a7, v7)], _ =>
    match k with
    | 0 => obtain rfl := Option.some.inj h; exact idx8L_0 a0 v0 a1 v1 a2 v2 a3 v3 a4 v4 a5 v5 a6 v6 a7 v7 W
    | 1 => obtain rfl := Option.some.inj h; exact idx8L_1 a0 v0 a1 v1 a2 v2 a3 v3 a4 v4 a5 v5 a6 v6 a7 v7 W
    | 2 => obtain rfl := Option.some.inj h; exact idx8L_2 a0 v0 a1 v1 a2 v2 a3 v3 a4 v4 a5 v5 a6 v6 a7 v7 W
    | 3 => obtain rfl := Option.some.inj h; exact idx8L_3 a0 v0 a1 v1 a2 v2 a3 v3 a4 v4 a5 v5 a6 v6 a7 v7 W
    | 4 => obtain rfl := Option.some.inj h; exact idx8L_4 a0 v0 a1 v1 a2 v2 a3 v3 a4 v4 a5 v5 a6 v6 a7 v7 W
    | 5 => obtain rfl := Option.some.inj h; exact idx8L_5 a0 v0 a1 v1 a2 v2 a3 v3 a4 v4 a5 v5 a6 v6 a7 v7 W
    | 6 => obtain rfl := Option.some.inj h; exact idx8L_6 a0 v0 a1 v1 a2 v2 a3 v3 a4 v4 a5 v5 a6 v6 a7 v7 W
    | 7 => obtain rfl := Option.some.inj h; exact idx8L_7 a0 v0 a1 v1 a2 v2 a3 v3 a4 v4 a5 v5 a6 v6 a7 v7 W
    | k + 8 => simp at h
theorem new_no (n : Int) (w : World) (h : ¬ (4 ≤ n ∧ n ≤ 200)) : Calls Try.prog 8 #[.int .i64 n] w fun e w' => e = .returned (.tuple #[.pointer none, .int .i64 22]) ∧ w = w' := by
  by_cases h4 : n < 4
  · clear h
    go_enter Try.func8, Try.ntmps8
    go_wp2_with fail
    go_ret2
    exact ⟨rfl, rfl⟩
  · have h5 : 200 < n := by omega
    clear h
    go_enter Try.func8, Try.ntmps8
    go_wp2_with fail
    go_ret2
    exact ⟨rfl, rfl⟩
theorem load_out (n : Int) (w : World) (A : Option Addr) (m c : Nat) (h : ¬ (4 ≤ n ∧ n ≤ 200)) : Calls Try.prog 15 #[.int .i64 n, .slice A m c] w fun e w' => e = .returned (.tuple #[.pointer none, .int .i64 22]) ∧ w = w' := by
  have HN := hide (new_no n w h)
  clear h
  go_enter Try.func15, Try.ntmps15
  go_wp2_with fail
  refine HN.out.mono ?_
  rintro r w' ⟨rfl, rfl⟩
  clear HN
  go_wp2_with fail
  go_ret2
  exact ⟨rfl, rfl⟩
def LdAns (n : Nat) (bs : List (List UInt8)) (w : World) (r : Ending) (w' : World) : Prop :=
  Below w.heap.size w w' ∧ ((¬ ldOk n bs ∧ r = .returned (.tuple #[.pointer none, .int .i64 100])) ∨
    (ldOk n bs ∧ ∃ m l b d, r = .returned (.tuple #[.pointer (some ⟨m, 0, none⟩), .int .i64 0]) ∧ ImpA w' m l b d (ldL n bs n) (List.replicate ((n + 7) / 8) false) ∧ w.heap.size ≤ m ∧ w.heap.size ≤ l ∧ w.heap.size ≤ b ∧ w.heap.size ≤ d))
set_option maxHeartbeats 4000000 in
theorem load_any (n : Nat) (w : World) (A : Option Addr) (m c : Nat) (bs : List (List UInt8)) (h4 : 4 ≤ n) (h200 : n ≤ 200) (hb : BlsAt w A m bs) :
    Calls Try.prog 15 #[.int .i64 (n : Int), .slice A m c] w (LdAns n bs w) := by
  have HBS := hide hb
  have HL := hide hb.len
  have HN4 := hide (And.intro h4 h200)
  have NW := hide (new_yes n w h4 h200)
  clear hb h4 h200
  go_enter Try.func15, Try.ntmps15
  go_wp2_with fail
  refine NW.out.mono ?_
  rintro r w1 ⟨mm, l, b, d, rfl, hI, hbl, h1, h2, h3, h4⟩
  clear NW
  obtain ⟨D, hD⟩ : ∃ D, D = List.replicate ((n + 7) / 8) false := ⟨_, rfl⟩
  rw [← hD] at hI
  have hDl : D.length = (n + 7) / 8 := by rw [hD, List.length_replicate]
  obtain ⟨c0, c1, c2⟩ := imp_cells hI
  have HI := hide hI
  obtain ⟨dl, hdl⟩ : ∃ k, k = D.length := ⟨_, rfl⟩
  rw [← hdl] at c2 hDl
  replace hD := hide hD
  replace hdl := hide hdl
  have BW := hide hbl
  have G := hide (And.intro h1 (And.intro h2 (And.intro h3 h4)))
  clear hI hbl h1 h2 h3 h4
  by_cases hm : m = (n + 7) / 8
  rotate_left
  · have hne : ((m : Int) != (dl : Int)) = true := bne_iff_ne.2 (by omega)
    have HM := hide hm
    clear hm hDl
    go_wp2_with fail
    go_ret2
    exact ⟨BW.out, .inl ⟨fun h => HM.out (by rw [← HL.out]; exact h.1), rfl⟩⟩
  have heq : ((m : Int) != (dl : Int)) = false := by rw [bne_eq_false_iff_eq]; omega
  have HD := hide (And.intro hD.out True.intro)
  have HM := hide hm
  have hm26 : m ≤ 26 := by have := HN4.out; omega
  clear hD hDl hm hdl
  go_upto_region 6 with fail
  clear heq c0 c1 c2
  have HF := hide (show ldL n bs 0 = fresh n from ldL_0 n bs)
  rw [← HF.out] at HI
  go_wp2_with fail
  go_loopw [33] (fun y wr => ∃ i : Nat, i ≤ m ∧ y = .int .i64 (i : Int) ∧ okP n bs (8 * i) ∧ (∀ x ∈ bs.take i, isM x = true) ∧ ImpA wr mm l b d (ldL n bs (8 * i)) D ∧ Below w.heap.size w wr) (fun y _ => m - (intOf y).toNat)
  case atStart => exact ⟨0, Nat.zero_le _, rfl, okP_0 _ _, fun x hx => by simp at hx, HI.out, BW.out⟩
  case round =>
    obtain ⟨i, hi, rfl, hok, hall, hI, hbl⟩ := hrel
    clear HI BW
    have HOK := hide hok
    have HALL := hide hall
    have HI := hide hI
    have BW := hide hbl
    clear hok hall hI hbl
    by_cases hlt : i < m
    rotate_left
    · have hjs : ¬ (i : Int) < (m : Int) := by omega
      obtain rfl : i = m := by omega
      have h8 : n ≤ 8 * i := by have := HM.out; omega
      have HE := hide (show ldL n bs (8 * i) = ldL n bs n from ldL_same bs (fun q hq _ => ⟨fun _ => hq, fun _ => by omega⟩))
      clear h8
      go_wp2_with fail
      go_ret2
      refine ⟨BW.out, .inr ⟨⟨by rw [HL.out]; exact HM.out, ?_, by rw [HL.out]; exact HOK.out⟩, mm, l, b, d, rfl, ?_, G.out⟩⟩
      · have := HALL.out
        rwa [List.take_of_length_le (by rw [HL.out]; exact Nat.le_refl _)] at this
      · have := HI.out
        rw [HE.out, HD.out.1] at this
        exact this
    have hjs : (i : Int) < (m : Int) := by omega
    obtain ⟨ad, B, bn, bc, bl, rfl, hbi, hcell, hby, hbc, hbm⟩ := (HBS.out.kp BW.out).get hlt
    have HBI := hide hbi
    clear hbi
    have RM := hide (readmap_any wr B bn bc bl hby hbc hbm)
    clear hby hbc hbm
    go_wp2_with fail
    clear hcell
    refine RM.out.mono ?_
    rintro r w3 ⟨hr, hb3⟩
    clear RM
    unfold RmAns at hr
    subst hr
    replace HI := hide (HI.out.kp hb3)
    replace BW := hide (BW.out.trans (hb3.mono BW.out.size))
    clear hb3
    obtain ⟨cs, hcs⟩ : ∃ cs, cs = fl meC (if isM bl = true then rdL bl else zer8) := ⟨_, rfl⟩
    rw [← hcs]
    have hsz : cs.size = 16 := by
      rw [hcs, fl_size meC_len]
      by_cases hM : isM bl = true
      · rw [if_pos hM, rdL_len]
      · rw [if_neg hM]; rfl
    have hone : cs.all (·.oneCell') = true := by rw [hcs]; exact fl8_one _
    have HCS := hide hcs
    obtain ⟨code, hcode⟩ : ∃ k : Int, k = if isM bl = true then 0 else 100 := ⟨_, rfl⟩
    rw [← hcode]
    have HCO := hide hcode
    clear hcs hcode
    have hi16 : (Try.prog.info? 61).map (·.size) = some cs.size := by rw [hsz]; exact hi16M
    have hz2 : (#[.int .i64 0, .int .i64 0, .int .i64 0, .int .i64 0, .int .i64 0, .int .i64 0, .int .i64 0, .int .i64 0, .int .i64 0, .int .i64 0, .int .i64 0, .int .i64 0, .int .i64 0, .int .i64 0, .int .i64 0, .int .i64 0] : Array Value).size = cs.size := by rw [hsz]; rfl
    have HZ := hide (And.intro hi16 (And.intro hz2 hone))
    clear hi16 hz2 hone
    go_upto_region 10 with (refine wpList_store_row (by rfl) 61 (.tmp 10) (.tmp 41) (by rfl) w3.heap.size cs (by rfl) (by rfl) 61 #[.int .i64 0, .int .i64 0, .int .i64 0, .int .i64 0, .int .i64 0, .int .i64 0, .int .i64 0, .int .i64 0, .int .i64 0, .int .i64 0, .int .i64 0, .int .i64 0, .int .i64 0, .int .i64 0, .int .i64 0, .int .i64 0] (Blk.new _ _ _) HZ.out.1 HZ.out.2.1 HZ.out.2.2 ?_)
    obtain ⟨w4, hw⟩ : ∃ W, W = (w3.alloc (.cells #[.int .i64 0, .int .i64 0, .int .i64 0, .int .i64 0, .int .i64 0, .int .i64 0, .int .i64 0, .int .i64 0, .int .i64 0, .int .i64 0, .int .i64 0, .int .i64 0, .int .i64 0, .int .i64 0, .int .i64 0, .int .i64 0] 61)).setRow w3.heap.size cs := ⟨_, rfl⟩
    have XC := hide (show Blk w4 w3.heap.size 61 cs by rw [hw]; exact setRow_heap _ _ _ _ _ _ (Blk.new _ _ _))
    have hb4 : Below w3.heap.size w3 w4 := by rw [hw]; exact below_setRow ((Below.refl _ _).alloc (Nat.le_refl _) _) (Nat.le_refl _) _
    rw [← hw]
    replace HI := hide (HI.out.kp hb4)
    replace BW := hide (BW.out.trans (hb4.mono BW.out.size))
    clear hb4 hw hsz HZ
    generalize w3.heap.size = gc at XC ⊢
    cases hM : isM bl with
    | false =>
      have HN := hide (ld_no2 (n := n) HBI.out hM)
      have hc : code = 100 := by rw [HCO.out, hM]; rfl
      subst hc
      clear hM HCO
      go_wp2_with fail
      go_ret2
      exact ⟨BW.out, .inl ⟨HN.out, rfl⟩⟩
    | true =>
      have HMB := hide hM
      have hc : code = 0 := by rw [HCO.out, hM]; rfl
      subst hc
      rw [hM, if_pos rfl] at HCS
      clear hM HCO
      have HIC := hide (show (Try.prog.info? 61).map (·.size) = some cs.size by rw [HCS.out, fl_size meC_len, rdL_len]; exact hi16M)
      go_upto_region 13 with (refine wpList_load_row (by rfl) 61 (.tmp 10) (by rfl) gc (by rfl) 61 cs (0, 0) _ XC.out Try.underlying61 rfl HIC.out ?_)
      go_loopw [47] (fun y wr => ∃ k : Nat, k ≤ 8 ∧ y = .int .i64 (k : Int) ∧ okP n bs (8 * i + k) ∧ ImpA wr mm l b d (ldL n bs (8 * i + k)) D ∧ Below w.heap.size w wr) (fun y _ => 8 - (intOf y).toNat)
      case atStart => exact ⟨0, Nat.zero_le _, rfl, HOK.out, HI.out, BW.out⟩
      case round =>
        obtain ⟨k, hk, rfl, hok, hI, hbl⟩ := hrel
        clear HI BW HOK
        have HOK := hide hok
        have HI := hide hI
        have BW := hide hbl
        clear hok hI hbl
        by_cases hkl : k < 8
        rotate_left
        · have hks : ¬ (k : Int) < 8 := by omega
          obtain rfl : k = 8 := by omega
          have HA2 := hide (show ∀ x ∈ bs.take (i + 1), isM x = true from fun x hx => by
            rw [List.take_succ_eq_append_getElem (by rw [HL.out]; exact hlt), List.mem_append] at hx
            rcases hx with hx | hx
            · exact HALL.out x hx
            · rw [List.mem_singleton.1 hx, (List.getElem?_eq_some_iff.1 HBI.out).2]
              exact HMB.out)
          have he : 8 * i + 8 = 8 * (i + 1) := by omega
          rw [he] at HOK HI
          clear he
          go_wp2_with fail
          go_roundw
          case rel => exact ⟨i + 1, hlt, by go_num, HOK.out, HA2.out, HI.out, BW.out⟩
          case measure => simp [intOf]; omega
        have hks : (k : Int) < 8 := by omega
        obtain ⟨⟨ea, ev⟩, he⟩ : ∃ e, e = enE bs (8 * i + k) := ⟨_, rfl⟩
        have hat := enE_at HBI.out hkl
        rw [← he] at hat
        have HE := hide he
        have hix := idx8M (rdL_len bl) hat
        rw [← HCS.out] at hix
        dsimp only at hix
        clear he hat
        obtain ⟨p, hp⟩ : ∃ p, p = 8 * i + k := ⟨_, rfl⟩
        have hi25 : i ≤ 25 := by have := HM.out; have := HN4.out; omega
        have hpi : 8 * (i : Int) + (k : Int) = (p : Int) := by omega
        have HPI := hide hpi
        clear hpi
        have HP := hide hp
        rw [← hp] at HOK HI HE
        have hp8 : p < 8 * bs.length := by rw [HL.out]; omega
        have HP8 := hide hp8
        clear hp8 hp
        go_upto_region 15 with fail
        obtain ⟨w5, hw⟩ : ∃ W, W = wr.alloc (.cells #[.int .i64 (ea : Int), .int .i64 (ev : Int)] 59) := ⟨_, rfl⟩
        have X5 := hide (show Blk w5 wr.heap.size 59 #[.int .i64 (ea : Int), .int .i64 (ev : Int)] by rw [hw]; exact Blk.new _ _ _)
        have hgl : wr.heap.size ≠ l ∧ wr.heap.size ≠ b := by
          have e1 := HI.out.hl.lt
          have e2 := HI.out.hb.lt
          omega
        replace HI := hide (show ImpA w5 mm l b d (ldL n bs p) D by rw [hw]; exact HI.out.alloc _)
        replace BW := hide (show Below w.heap.size w w5 by rw [hw]; exact BW.out.alloc BW.out.size _)
        rw [← hw]
        clear hw hix
        generalize wr.heap.size = g5 at X5 hgl ⊢
        have HGL := hide hgl
        clear hgl
        obtain ⟨z0, z1⟩ := op2E X5.out
        go_upto_region 16 with fail
        rw [HPI.out]
        clear hi25
        have hki : k < 9223372036854775807 := by omega
        by_cases hin : 1 ≤ p ∧ p < n
        · have h1 : (1 : Int) ≤ (p : Int) := by omega
          have h2 : (p : Int) < (n : Int) := by omega
          have HIN := hide hin
          clear hin
          go_upto_region 17 with fail
          obtain ⟨c0, c1, c2⟩ := imp_cells HI.out
          rw [ldL_len] at c0 c1
          clear c2
          have hpl : p < (ldL n bs p).length := by rw [ldL_len]; exact HIN.out.2
          have v0 : w5.cell? ⟨l, p * 2, none⟩ = some (.int .i64 ((ldL n bs p)[p].addr : Int)) := by rw [HI.out.hl.cell, entC_addr _ p hpl]
          have v1 : w5.cell? ⟨l, p * 2 + 1, none⟩ = some (.int .i64 ((ldL n bs p)[p].ver : Int)) := by rw [HI.out.hl.cell, entC_ver _ p hpl]
          have v2 : w5.cell? ⟨b, p, none⟩ = some (.bool (ldL n bs p)[p].busy) := by rw [HI.out.hb.cell, bsy_get _ p hpl]
          have f0 := HI.out.hl.frozen (p * 2)
          have f1 := HI.out.hl.frozen (p * 2 + 1)
          have f2 := HI.out.hb.frozen p
          have n1 := HI.out.ml
          have n2 := HI.out.mb
          have n4 := HI.out.lb
          have n5 := HGL.out.1
          have n6 := HGL.out.2
          generalize (ldL n bs p)[p].addr = xa at v0
          generalize (ldL n bs p)[p].ver = xv at v1
          generalize (ldL n bs p)[p].busy = xb at v2
          clear hpl h1 h2
          have hpn : (p : Int) < (n : Int) := by have := HIN.out.2; omega
          go_region
          clear v0 v1 v2 f0 f1 f2 c0 c1 n1 n2 n4 n5 n6 z0 z1
          go_wp2_with fail
          have HB := hide (show ((ea : Int) != 0) = (mkE (enE bs p)).busy by
            rw [← HE.out]
            unfold mkE
            rw [Bool.eq_iff_iff, bne_iff_ne, decide_eq_true_iff]
            dsimp only
            omega)
          rw [HB.out]
          have ha : (ea : Int) = ((mkE (enE bs p)).addr : Int) := by rw [← HE.out]; rfl
          have hv : (ev : Int) = ((mkE (enE bs p)).ver : Int) := by rw [← HE.out]; rfl
          rw [ha, hv]
          have HS := Imp.set_lb HI.out p (mkE (enE bs p))
          rw [ldL_set bs HIN.out.1 HIN.out.2] at HS
          have hpk : 8 * i + (k + 1) = p + 1 := by have := HP.out; omega
          refine ⟨⟨k + 1, hkl, by simp, ?_, ?_, ?_⟩, ?_⟩
          · rw [hpk]
            exact okP_succ HOK.out (fun h => absurd h (by have := HIN.out; omega))
          · rw [hpk]
            exact HS.drew
          · exact (((BW.out.setCell (p := ⟨l, p * 2, none⟩) G.out.2.1 _).setCell (p := ⟨l, p * 2 + 1, none⟩) G.out.2.1 _).setCell (p := ⟨b, p, none⟩) G.out.2.2.1 _).drew
          · simp [intOf]; omega
        have HIN := hide (show p = 0 ∨ n ≤ p by omega)
        have hsk : ldL n bs p = ldL n bs (p + 1) := ldL_same bs (fun q hq h1 => by omega)
        rw [hsk] at HI
        have hpk : 8 * i + (k + 1) = p + 1 := by have := HP.out; omega
        have HPK := hide hpk
        have h12 : (¬ (1 : Int) ≤ (p : Int)) ∨ ((1 : Int) ≤ (p : Int) ∧ ¬ (p : Int) < (n : Int)) := by omega
        clear hin hsk hpk
        by_cases he0 : ea = 0
        rotate_left
        · have HBAD := hide (ld_no (i := 0) HP8.out HIN.out (show enE bs p ≠ (0, 0) from fun h => he0 (by rw [← HE.out] at h; exact (Prod.mk.inj h).1)))
          rcases h12 with h1 | ⟨h1, h2⟩
          · go_wp2_with fail
            go_ret2
            exact ⟨BW.out, .inl ⟨HBAD.out, rfl⟩⟩
          · go_wp2_with fail
            go_ret2
            exact ⟨BW.out, .inl ⟨HBAD.out, rfl⟩⟩
        by_cases hv0 : ev = 0
        rotate_left
        · have HBAD := hide (ld_no (i := 0) HP8.out HIN.out (show enE bs p ≠ (0, 0) from fun h => hv0 (by rw [← HE.out] at h; exact (Prod.mk.inj h).2)))
          rcases h12 with h1 | ⟨h1, h2⟩
          · go_wp2_with fail
            go_ret2
            exact ⟨BW.out, .inl ⟨HBAD.out, rfl⟩⟩
          · go_wp2_with fail
            go_ret2
            exact ⟨BW.out, .inl ⟨HBAD.out, rfl⟩⟩
        have HOK2 := hide (okP_succ HOK.out (fun _ => by rw [← HE.out, he0, hv0]))
        rcases h12 with h1 | ⟨h1, h2⟩
        · go_wp2_with fail
          refine ⟨⟨k + 1, hkl, by simp, by rw [HPK.out]; exact HOK2.out, by rw [HPK.out]; exact HI.out, BW.out⟩, ?_⟩
          simp [intOf]; omega
        · go_wp2_with fail
          refine ⟨⟨k + 1, hkl, by simp, by rw [HPK.out]; exact HOK2.out, by rw [HPK.out]; exact HI.out, BW.out⟩, ?_⟩
          simp [intOf]; omega
end Go.Proofs.Ytbmblofhogihdaa
