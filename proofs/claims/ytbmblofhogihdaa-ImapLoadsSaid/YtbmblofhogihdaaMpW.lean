/- The walk of marlref11.Load. -/
import Derived.Test.YtbmblofhogihdaaMoW
import Derived.Test.YtbmblofhogihdaaTk
namespace Go.Proofs.Ytbmblofhogihdaa
open Go.RowKit
set_option maxRecDepth 100000
attribute [local go_sem ↓] Go.wp_at_zero Go.wp_at_succ

theorem ret_rl {K : Ending → World → Prop} {tmps : Array Value} {w : World} {g : Nat} {cs : Array Value} {v : Value} (hp : tmps.getD 4 undef = .pointer (some ⟨g, 0, none⟩)) (hq : tmps.getD 5 undef = v) (hB : Blk w g 48 cs) (hs : cs.size = 1)
    (hK : K (.returned (.tuple #[.agg cs, v])) w) : bodyPost Try.prog Try.f16 K .ret ⟨tmps, []⟩ w :=
  bodyPost_ret (results_cell_slotM (g := g) (cs := cs) (t := 48) (fr := (0, 0)) rfl _ _ (v := v) (hp := hp) (hq := hq) (hg := hB) (hu := Try.underlying48) (hd := rfl) (hi := by rw [hs]; exact hi1R)) rfl hK
set_option maxHeartbeats 1000000 in
theorem loadR_out (n : Int) (w : World) (A : Option Addr) (m c : Nat) (h : ¬ (4 ≤ n ∧ n ≤ 200)) : Calls Try.prog 16 #[.int .i64 n, .slice A m c] w fun e w' => e = .returned (.tuple #[.agg #[.slice none 0 0], .int .i64 22]) ∧ Below w.heap.size w w' := by
  have HN := hide h
  clear h
  go_enter Try.func16, Try.ntmps16
  go_upto_region 1 with fail
  obtain ⟨w1, hw⟩ : ∃ W, W = w.alloc (.cells #[.slice none 0 0] 48) := ⟨_, rfl⟩
  have X4 := hide (show Blk w1 w.heap.size 48 #[.slice none 0 0] by rw [hw]; exact Blk.new _ _ _)
  have BW := hide (show Below w.heap.size w w1 by rw [hw]; exact (Below.refl _ _).alloc (Nat.le_refl _) _)
  have G4 := hide (Nat.le_refl w.heap.size)
  rw [← hw]
  clear hw
  obtain ⟨g4, hg4⟩ : ∃ k, k = w.heap.size := ⟨_, rfl⟩
  have G4 := hide (show w.heap.size ≤ g4 by omega)
  rw [← hg4] at X4 ⊢
  clear hg4
  go_wp2_with fail
  refine (newR_no n w1 HN.out).mono ?_
  rintro r w2 ⟨rfl, hb⟩
  replace X4 := hide (X4.out.below hb)
  replace BW := hide (BW.out.trans (hb.mono BW.out.size))
  clear hb HN
  have z0 := X4.out.cell 0
  simp only [List.getElem?_toArray, List.getElem?_cons_zero] at z0
  have z1 := X4.out.frozen 0
  have zl := X4.out.lt
  go_wp2_with fail
  refine ret_rl (g := g4) rfl rfl ((X4.out.set 0 _).alloc _) rfl ⟨rfl, (BW.out.setCell (p := ⟨g4, 0, none⟩) G4.out _).alloc (by simpa [World.setCell] using BW.out.size) _⟩
def LdRAns (n : Nat) (bs : List (List UInt8)) (w : World) (r : Ending) (w' : World) : Prop :=
  Below w.heap.size w w' ∧ ((¬ ldOk n bs ∧ r = .returned (.tuple #[.agg #[.slice none 0 0], .int .i64 100])) ∨
    (ldOk n bs ∧ ∃ g, r = .returned (.tuple #[.agg #[.slice (some ⟨g, 0, none⟩) n n], .int .i64 0]) ∧ Blk w' g 72 (fl inC (ldL n bs n)) ∧ w.heap.size ≤ g))
theorem ldL_bd {n : Nat} {bs : List (List UInt8)} : ∀ e ∈ ldL n bs 0, e.addr < 4096 ∧ e.ver < 65536 := fun e he => by
  rw [ldL_0] at he
  rw [(List.mem_replicate.1 he).2]
  decide
theorem mkE_00 : mkE (0, 0) = noEnt := rfl
theorem ldL_set0 {n : Nat} (bs : List (List UInt8)) (hn : 0 < n) : (ldL n bs 0).set 0 noEnt = ldL n bs 1 := by
  apply List.ext_getElem?
  intro q
  by_cases hq : q < n
  · by_cases e : 0 = q
    · subst e
      rw [List.getElem?_set_self (by rw [ldL_len]; exact hn), ldL_get bs _ hn, if_neg (by omega)]
    · rw [List.getElem?_set_ne e, ldL_get bs _ hq, ldL_get bs _ hq, if_neg (by omega), if_neg (by omega)]
  · rw [List.getElem?_eq_none (by rw [List.length_set, ldL_len]; omega), List.getElem?_eq_none (by rw [ldL_len]; omega)]
theorem inC_set (L : List Ent) (i : Nat) (hi : i < L.length) (e : Ent) : ((((fl inC L).setIfInBounds (i * 4) (.int .i64 (e.ver : Int))).setIfInBounds (i * 4 + 1) (.int .i64 (e.addr : Int))).setIfInBounds (i * 4 + 2) (.bool e.busy)).setIfInBounds (i * 4 + 3) (.bool false) = fl inC (L.set i e) := by
  have h0 := fl_set inC_len L i 0 (by decide) (.int .i64 (e.ver : Int)) { L[i] with ver := e.ver } (by
    intro x hx
    rw [List.getElem?_eq_getElem hi] at hx
    injection hx with hx
    subst hx
    rfl)
  have h1 := fl_set inC_len (L.set i { L[i] with ver := e.ver }) i 1 (by decide) (.int .i64 (e.addr : Int)) { L[i] with ver := e.ver, addr := e.addr } (by
    intro x hx
    rw [List.getElem?_set_self hi] at hx
    injection hx with hx
    subst hx
    rfl)
  have h2 := fl_set inC_len (L.set i { L[i] with ver := e.ver, addr := e.addr }) i 2 (by decide) (.bool e.busy) e (by
    intro x hx
    rw [List.getElem?_set_self hi] at hx
    injection hx with hx
    subst hx
    rfl)
  have h3 := fl_set inC_len (L.set i e) i 3 (by decide) (.bool false) e (by
    intro x hx
    rw [List.getElem?_set_self hi] at hx
    injection hx with hx
    subst hx
    rfl)
  rw [Nat.add_zero] at h0
  rw [List.set_set] at h1 h2
  rw [List.set_set] at h3
  rw [h0, h1, h2, h3]
set_option maxHeartbeats 4000000 in
theorem loadR_any (n : Nat) (w : World) (A : Option Addr) (m c : Nat) (bs : List (List UInt8)) (h4 : 4 ≤ n) (h200 : n ≤ 200) (hb : BlsAt w A m bs) :
    Calls Try.prog 16 #[.int .i64 (n : Int), .slice A m c] w (LdRAns n bs w) := by
  have HBS := hide hb
  have HL := hide hb.len
  have HN4 := hide (And.intro h4 h200)
  clear hb h4 h200
  go_enter Try.func16, Try.ntmps16
  go_upto_region 1 with fail
  obtain ⟨w1, hw⟩ : ∃ W, W = w.alloc (.cells #[.slice none 0 0] 48) := ⟨_, rfl⟩
  have X4 := hide (show Blk w1 w.heap.size 48 #[.slice none 0 0] by rw [hw]; exact Blk.new _ _ _)
  have BW := hide (show Below w.heap.size w w1 by rw [hw]; exact (Below.refl _ _).alloc (Nat.le_refl _) _)
  rw [← hw]
  clear hw
  obtain ⟨g4, hg4⟩ : ∃ k, k = w.heap.size := ⟨_, rfl⟩
  have G4 := hide (show w.heap.size ≤ g4 by omega)
  rw [← hg4] at X4 ⊢
  clear hg4
  go_wp2_with fail
  refine (newR_yes n w1 HN4.out.1 HN4.out.2).mono ?_
  rintro r w2 ⟨g, rfl, hB, hg, hb⟩
  have G4' := X4.out.lt
  have GG := hide (show w.heap.size ≤ g ∧ g4 ≠ g from ⟨Nat.le_trans BW.out.size hg, by omega⟩)
  clear G4'
  replace X4 := hide (X4.out.below hb)
  replace BW := hide (BW.out.trans (hb.mono BW.out.size))
  rw [← ldL_0 n bs] at hB
  have XL := hide hB
  clear hb hB hg
  go_upto_region 2 with fail
  obtain ⟨w3, hw⟩ : ∃ W, W = w2.alloc (.cells #[.slice (some ⟨g, 0, none⟩) n n] 48) := ⟨_, rfl⟩
  have X6 := hide (show Blk w3 w2.heap.size 48 #[.slice (some ⟨g, 0, none⟩) n n] by rw [hw]; exact Blk.new _ _ _)
  have e1 := X4.out.lt
  have e2 := XL.out.lt
  replace X4 := hide (show Blk w3 g4 48 #[.slice none 0 0] by rw [hw]; exact X4.out.alloc _)
  replace XL := hide (show Blk w3 g 72 (fl inC (ldL n bs 0)) by rw [hw]; exact XL.out.alloc _)
  replace BW := hide (show Below w.heap.size w w3 by rw [hw]; exact BW.out.alloc BW.out.size _)
  rw [← hw]
  obtain ⟨g6, hg6⟩ : ∃ k, k = w2.heap.size := ⟨_, rfl⟩
  have G6 := hide (show g6 ≠ g ∧ g6 ≠ g4 by omega)
  rw [← hg6] at X6 ⊢
  clear hw e1 e2 hg6
  have BK := hide (blocksR_any w3 g n n (ldL n bs 0) XL.out (ldL_len _ _ _) HN4.out.2 ldL_bd)
  have y6 := X6.out.cell 0
  simp only [List.getElem?_toArray, List.getElem?_cons_zero] at y6
  go_upto_region 4 with fail
  go_wp2_with fail
  refine BK.out.mono ?_
  rintro r w4 ⟨A2, c2, rfl, -, hb⟩
  rw [ldL_len]
  replace X4 := hide (X4.out.below hb)
  replace X6 := hide (X6.out.below hb)
  replace XL := hide (XL.out.below hb)
  replace BW := hide (BW.out.trans (hb.mono BW.out.size))
  clear hb BK y6
  obtain ⟨dl, hdl⟩ : ∃ k, k = (n + 7) / 8 := ⟨_, rfl⟩
  rw [← hdl]
  have z0 := X4.out.cell 0
  simp only [List.getElem?_toArray, List.getElem?_cons_zero] at z0
  have z1 := X4.out.frozen 0
  by_cases hm : m = dl
  rotate_left
  · have hne : ((m : Int) != (dl : Int)) = true := bne_iff_ne.2 (by omega)
    have HM := hide (show ¬ m = (n + 7) / 8 from fun h => hm (h.trans hdl.symm))
    clear hm hdl
    go_wp2_with fail
    refine ret_rl (g := g4) rfl rfl (X4.out.set 0 _) rfl ⟨BW.out.setCell (p := ⟨g4, 0, none⟩) G4.out _, .inl ⟨fun h => HM.out (by rw [← HL.out]; exact h.1), rfl⟩⟩
  have heq : ((m : Int) != (dl : Int)) = false := by rw [bne_eq_false_iff_eq]; omega
  have HM := hide (hm.trans hdl)
  have hm26 : m ≤ 26 := by have := HN4.out; omega
  clear hm hdl
  go_upto_region 6 with fail
  clear heq z0 z1
  go_wp2_with fail
  go_loopw [31] (fun y wr => ∃ i : Nat, i ≤ m ∧ y = .int .i64 (i : Int) ∧ okP n bs (8 * i) ∧ (∀ x ∈ bs.take i, isM x = true) ∧ Blk wr g 72 (fl inC (ldL n bs (8 * i))) ∧ Blk wr g6 48 #[.slice (some ⟨g, 0, none⟩) n n] ∧ Blk wr g4 48 #[.slice none 0 0] ∧ Below w.heap.size w wr) (fun y _ => m - (intOf y).toNat)
  case atStart => exact ⟨0, Nat.zero_le _, rfl, okP_0 _ _, fun x hx => by simp at hx, XL.out, X6.out, X4.out, BW.out⟩
  case round =>
    obtain ⟨i, hi, rfl, hok, hall, hI, h6, h4, hbl⟩ := hrel
    clear XL X6 X4 BW
    have HOK := hide hok
    have HALL := hide hall
    have XL := hide hI
    have X6 := hide h6
    have X4 := hide h4
    have BW := hide hbl
    clear hok hall hI hbl h6 h4
    by_cases hlt : i < m
    rotate_left
    · have hjs : ¬ (i : Int) < (m : Int) := by omega
      obtain rfl : i = m := by omega
      have h8 : n ≤ 8 * i := by have := HM.out; omega
      have HE := hide (show ldL n bs (8 * i) = ldL n bs n from ldL_same bs (fun q hq _ => ⟨fun _ => hq, fun _ => by omega⟩))
      have y6 := X6.out.cell 0
      have z0 := X4.out.cell 0
      simp only [List.getElem?_toArray, List.getElem?_cons_zero] at y6 z0
      have z1 := X4.out.frozen 0
      clear h8
      go_wp2_with fail
      refine ret_rl (g := g4) rfl rfl (X4.out.set 0 _) rfl ⟨BW.out.setCell (p := ⟨g4, 0, none⟩) G4.out _, .inr ⟨⟨by rw [HL.out]; exact HM.out, ?_, by rw [HL.out]; exact HOK.out⟩, g, rfl, ?_, GG.out.1⟩⟩
      · have := HALL.out
        rwa [List.take_of_length_le (by rw [HL.out]; exact Nat.le_refl _)] at this
      · have := XL.out.far (p := ⟨g4, 0, none⟩) (Ne.symm GG.out.2) (.slice (some ⟨g, 0, none⟩) n n)
        rw [HE.out] at this
        exact this
    have hjs : (i : Int) < (m : Int) := by omega
    obtain ⟨ad, B, bn, bc, bl, rfl, hbi, hcell, hby, hbc, hbm⟩ := (HBS.out.kp BW.out).get hlt
    have HBI := hide hbi
    clear hbi
    have RM := hide (readmapR_any wr B bn bc bl hby hbc hbm)
    clear hby hbc hbm
    go_wp2_with fail
    clear hcell
    refine RM.out.mono ?_
    rintro r w3 ⟨hr, hb3⟩
    clear RM
    unfold RmAns at hr
    subst hr
    replace XL := hide (XL.out.below hb3)
    replace X6 := hide (X6.out.below hb3)
    replace X4 := hide (X4.out.below hb3)
    replace BW := hide (BW.out.trans (hb3.mono BW.out.size))
    clear hb3
    obtain ⟨cs, hcs⟩ : ∃ cs, cs = fl meC (if isM bl = true then rdL bl else zer8) := ⟨_, rfl⟩
    rw [← hcs]
    have hsz : cs.size = 16 := by
      rw [hcs, fl_size meC_len]
      by_cases hM : isM bl = true
      · rw [if_pos hM, rdL_len]
      · rw [if_neg hM]; rfl
    have hone : cs.all (·.oneCell') = true := by rw [hcs]; exact fl8_one _
    have HCS := hide hcs
    obtain ⟨code, hcode⟩ : ∃ k : Int, k = if isM bl = true then 0 else 100 := ⟨_, rfl⟩
    rw [← hcode]
    have HCO := hide hcode
    clear hcs hcode
    have hi16 : (Try.prog.info? 68).map (·.size) = some cs.size := by rw [hsz]; exact hi16Q
    have hz2 : (#[.int .i64 0, .int .i64 0, .int .i64 0, .int .i64 0, .int .i64 0, .int .i64 0, .int .i64 0, .int .i64 0, .int .i64 0, .int .i64 0, .int .i64 0, .int .i64 0, .int .i64 0, .int .i64 0, .int .i64 0, .int .i64 0] : Array Value).size = cs.size := by rw [hsz]; rfl
    have HZ := hide (And.intro hi16 (And.intro hz2 hone))
    clear hi16 hz2 hone
    go_upto_region 10 with (refine wpList_store_row (by rfl) 68 (.tmp 9) (.tmp 40) (by rfl) w3.heap.size cs (by rfl) (by rfl) 68 #[.int .i64 0, .int .i64 0, .int .i64 0, .int .i64 0, .int .i64 0, .int .i64 0, .int .i64 0, .int .i64 0, .int .i64 0, .int .i64 0, .int .i64 0, .int .i64 0, .int .i64 0, .int .i64 0, .int .i64 0, .int .i64 0] (Blk.new _ _ _) HZ.out.1 HZ.out.2.1 HZ.out.2.2 ?_)
    obtain ⟨w4, hw⟩ : ∃ W, W = (w3.alloc (.cells #[.int .i64 0, .int .i64 0, .int .i64 0, .int .i64 0, .int .i64 0, .int .i64 0, .int .i64 0, .int .i64 0, .int .i64 0, .int .i64 0, .int .i64 0, .int .i64 0, .int .i64 0, .int .i64 0, .int .i64 0, .int .i64 0] 68)).setRow w3.heap.size cs := ⟨_, rfl⟩
    have XC := hide (show Blk w4 w3.heap.size 68 cs by rw [hw]; exact setRow_heap _ _ _ _ _ _ (Blk.new _ _ _))
    have hb4 : Below w3.heap.size w3 w4 := by rw [hw]; exact below_setRow ((Below.refl _ _).alloc (Nat.le_refl _) _) (Nat.le_refl _) _
    rw [← hw]
    have GC := hide (show w3.heap.size ≠ g ∧ w3.heap.size ≠ g6 from ⟨fun e => by have := XL.out.lt; omega, fun e => by have := X6.out.lt; omega⟩)
    replace XL := hide (XL.out.below hb4)
    replace X6 := hide (X6.out.below hb4)
    replace X4 := hide (X4.out.below hb4)
    replace BW := hide (BW.out.trans (hb4.mono BW.out.size))
    clear hb4 hw hsz HZ
    generalize w3.heap.size = gc at XC GC ⊢
    cases hM : isM bl with
    | false =>
      have HN := hide (ld_no2 (n := n) HBI.out hM)
      have hc : code = 100 := by rw [HCO.out, hM]; rfl
      subst hc
      clear hM HCO
      have z0 := X4.out.cell 0
      simp only [List.getElem?_toArray, List.getElem?_cons_zero] at z0
      have z1 := X4.out.frozen 0
      go_wp2_with fail
      refine ret_rl (g := g4) rfl rfl (X4.out.set 0 _) rfl ⟨BW.out.setCell (p := ⟨g4, 0, none⟩) G4.out _, .inl ⟨HN.out, rfl⟩⟩
    | true =>
      have HMB := hide hM
      have hc : code = 0 := by rw [HCO.out, hM]; rfl
      subst hc
      rw [hM, if_pos rfl] at HCS
      rw [HCS.out] at XC
      clear hM HCO HCS
      go_upto_region 12 with fail
      go_wp2_with fail
      go_loopw [11] (fun y wr => ∃ k : Nat, k ≤ 8 ∧ y = .int .i64 (k : Int) ∧ okP n bs (8 * i + k) ∧ Blk wr g 72 (fl inC (ldL n bs (8 * i + k))) ∧ Blk wr g6 48 #[.slice (some ⟨g, 0, none⟩) n n] ∧ Blk wr g4 48 #[.slice none 0 0] ∧ Blk wr gc 68 (fl meC (rdL bl)) ∧ Below w.heap.size w wr) (fun y _ => 8 - (intOf y).toNat)
      case atStart => exact ⟨0, Nat.zero_le _, rfl, HOK.out, XL.out, X6.out, X4.out, XC.out, BW.out⟩
      case round =>
        obtain ⟨k, hk, rfl, hok, hI, h6, h4, hxc, hbl⟩ := hrel
        clear XL X6 X4 BW HOK XC
        have HOK := hide hok
        have XL := hide hI
        have X6 := hide h6
        have X4 := hide h4
        have XC := hide hxc
        have BW := hide hbl
        clear hok hI hbl h6 h4 hxc
        by_cases hkl : k < 8
        rotate_left
        · have hks : ¬ (k : Int) < 8 := by omega
          obtain rfl : k = 8 := by omega
          have HA2 := hide (show ∀ x ∈ bs.take (i + 1), isM x = true from fun x hx => by
            rw [List.take_succ_eq_append_getElem (by rw [HL.out]; exact hlt), List.mem_append] at hx
            rcases hx with hx | hx
            · exact HALL.out x hx
            · rw [List.mem_singleton.1 hx, (List.getElem?_eq_some_iff.1 HBI.out).2]
              exact HMB.out)
          have he : 8 * i + 8 = 8 * (i + 1) := by omega
          rw [he] at HOK XL
          clear he
          go_wp2_with fail
          go_roundw
          case rel => exact ⟨i + 1, hlt, by go_num, HOK.out, HA2.out, XL.out, X6.out, X4.out, BW.out⟩
          case measure => simp [intOf]; omega
        have hks : (k : Int) < 8 := by omega
        obtain ⟨⟨ea, ev⟩, he⟩ : ∃ e, e = enE bs (8 * i + k) := ⟨_, rfl⟩
        have hat := enE_at HBI.out hkl
        rw [← he] at hat
        have HE := hide he
        obtain ⟨q0, q1⟩ := me_cells XC.out hat
        dsimp only at q0 q1
        clear he hat
        obtain ⟨p, hp⟩ : ∃ p, p = 8 * i + k := ⟨_, rfl⟩
        obtain ⟨x, hx⟩ : ∃ x, x = p + 1 := ⟨_, rfl⟩
        have hi25 : i ≤ 25 := by have := HM.out; have := HN4.out; omega
        have hpi : 8 * (i : Int) + (k : Int) + 1 = (x : Int) := by omega
        have HPI := hide hpi
        have hwx : IntKind.i64.wrap ((x : Int) - 1) = (p : Int) := by rw [IntKind.wrap_i64]; omega
        clear hpi
        have HP := hide hp
        have HX := hide hx
        rw [← hp] at HOK XL HE
        have hp8 : p < 8 * bs.length := by rw [HL.out]; omega
        have HP8 := hide hp8
        clear hp8
        have hpk : 8 * i + (k + 1) = p + 1 := by omega
        have HPK := hide hpk
        clear hpk
        have hkey : (x = 1 ∧ p = 0) ∨ (2 ≤ x ∧ x ≤ n ∧ 1 ≤ p) ∨ (2 ≤ x ∧ n < x ∧ n ≤ p) := by omega
        have hxp : x ≤ n ↔ p < n := by omega
        have HXP := hide hxp
        clear hp hx hxp
        go_upto_region 16 with fail
        rw [HPI.out]
        clear hi25
        have hki : k < 9223372036854775807 := by omega
        rcases hkey with ⟨h1, h2⟩ | ⟨h1, h2, h3⟩ | ⟨h1, h2, h3⟩
        rotate_left 2
        · have hx1 : ((x : Int) == 1) = false := beq_eq_false_iff_ne.2 (by omega)
          have hxn : (n : Int) < (x : Int) := by omega
          have HIN := hide (show p = 0 ∨ n ≤ p from .inr h3)
          by_cases he0 : ea = 0
          rotate_left
          · have HBAD := hide (ld_no (i := 0) HP8.out HIN.out (show enE bs p ≠ (0, 0) from fun h => he0 (by rw [← HE.out] at h; exact (Prod.mk.inj h).1)))
            have hb1 : ((ea : Int) != 0) = true := bne_iff_ne.2 (by omega)
            have z0 := X4.out.cell 0
            simp only [List.getElem?_toArray, List.getElem?_cons_zero] at z0
            have z1 := X4.out.frozen 0
            go_wp2_with fail
            refine ret_rl (g := g4) rfl rfl (X4.out.set 0 _) rfl ⟨BW.out.setCell (p := ⟨g4, 0, none⟩) G4.out _, .inl ⟨HBAD.out, rfl⟩⟩
          by_cases hv0 : ev = 0
          rotate_left
          · have HBAD := hide (ld_no (i := 0) HP8.out HIN.out (show enE bs p ≠ (0, 0) from fun h => hv0 (by rw [← HE.out] at h; exact (Prod.mk.inj h).2)))
            have hb1 : ((ea : Int) != 0) = false := bne_eq_false_iff_eq.2 (by omega)
            have hb2 : ((ev : Int) != 0) = true := bne_iff_ne.2 (by omega)
            have z0 := X4.out.cell 0
            simp only [List.getElem?_toArray, List.getElem?_cons_zero] at z0
            have z1 := X4.out.frozen 0
            go_wp2_with fail
            refine ret_rl (g := g4) rfl rfl (X4.out.set 0 _) rfl ⟨BW.out.setCell (p := ⟨g4, 0, none⟩) G4.out _, .inl ⟨HBAD.out, rfl⟩⟩
          have HOK2 := hide (okP_succ HOK.out (fun _ => by rw [← HE.out, he0, hv0]))
          have hb1 : ((ea : Int) != 0) = false := bne_eq_false_iff_eq.2 (by omega)
          have hb2 : ((ev : Int) != 0) = false := bne_eq_false_iff_eq.2 (by omega)
          have hsk : ldL n bs p = ldL n bs (p + 1) := ldL_same bs (fun q hq h1 => by omega)
          rw [hsk] at XL
          clear hsk h1 h2 h3
          have hxn2 : ¬ (x : Int) ≤ (n : Int) := by omega
          go_wp2_with fail
          go_roundw
          case rel => exact ⟨k + 1, hkl, by go_num, by rw [HPK.out]; exact HOK2.out, by rw [HPK.out]; exact XL.out, X6.out, X4.out, XC.out, BW.out⟩
          case measure => simp [intOf]; omega
        · have hx1 : ((x : Int) == 1) = true := beq_iff_eq.2 (by omega)
          have HIN := hide (show p = 0 ∨ n ≤ p from .inl h2)
          by_cases he0 : ea = 0
          rotate_left
          · have HBAD := hide (ld_no (i := 0) HP8.out HIN.out (show enE bs p ≠ (0, 0) from fun h => he0 (by rw [← HE.out] at h; exact (Prod.mk.inj h).1)))
            have hb1 : ((ea : Int) != 0) = true := bne_iff_ne.2 (by omega)
            have z0 := X4.out.cell 0
            simp only [List.getElem?_toArray, List.getElem?_cons_zero] at z0
            have z1 := X4.out.frozen 0
            go_wp2_with fail
            refine ret_rl (g := g4) rfl rfl (X4.out.set 0 _) rfl ⟨BW.out.setCell (p := ⟨g4, 0, none⟩) G4.out _, .inl ⟨HBAD.out, rfl⟩⟩
          by_cases hv0 : ev = 0
          rotate_left
          · have HBAD := hide (ld_no (i := 0) HP8.out HIN.out (show enE bs p ≠ (0, 0) from fun h => hv0 (by rw [← HE.out] at h; exact (Prod.mk.inj h).2)))
            have hb1 : ((ea : Int) != 0) = false := bne_eq_false_iff_eq.2 (by omega)
            have hb2 : ((ev : Int) != 0) = true := bne_iff_ne.2 (by omega)
            have z0 := X4.out.cell 0
            simp only [List.getElem?_toArray, List.getElem?_cons_zero] at z0
            have z1 := X4.out.frozen 0
            go_wp2_with fail
            refine ret_rl (g := g4) rfl rfl (X4.out.set 0 _) rfl ⟨BW.out.setCell (p := ⟨g4, 0, none⟩) G4.out _, .inl ⟨HBAD.out, rfl⟩⟩
          have HOK2 := hide (okP_succ HOK.out (fun _ => by rw [← HE.out, he0, hv0]))
          have hb1 : ((ea : Int) != 0) = false := bne_eq_false_iff_eq.2 (by omega)
          have hb2 : ((ev : Int) != 0) = false := bne_eq_false_iff_eq.2 (by omega)
          have hset : (ldL n bs p).set p ⟨ea, ev, decide (ea ≠ 0)⟩ = ldL n bs (p + 1) := by
            subst he0 hv0 h2
            exact ldL_set0 bs (by have := HN4.out; omega)
          have hokn := HOK2.out
          have hxn2 : (x : Int) ≤ (n : Int) := by have := HN4.out; omega
          have hpnA : (p : Int) < (n : Int) := by have := HN4.out; omega
          clear h1 h2 he0 hv0
          have HSET := hide hset
          have HOKN := hide hokn
          have hpn : (p : Int) < (n : Int) := hpnA
          clear hpnA
          have hpnn : p < n := by omega
          have y6 := X6.out.cell 0
          simp only [List.getElem?_toArray, List.getElem?_cons_zero] at y6
          clear hset hokn
          go_upto_region 19 with fail
          clear hb1 hb2
          obtain ⟨bz, hbz⟩ : ∃ b, b = decide (ea ≠ 0) := ⟨_, rfl⟩
          have hb : ((ea : Int) != 0) = bz := by rw [hbz, Bool.eq_iff_iff, bne_iff_ne, decide_eq_true_iff]; omega
          have HBZ := hide hbz
          clear hbz
          refine wp_region_noPanic ?_
          refine wp_region_last (n := 19) (S := (fun w' => w'.cell? ⟨g6, 0, none⟩ = some (.slice (some ⟨g, 0, none⟩) n n) ∧ w'.cell? ⟨gc, k * 2, none⟩ = some (.int .i64 (ea : Int)) ∧ w'.cell? ⟨gc, k * 2 + 1, none⟩ = some (.int .i64 (ev : Int)))) (by kernel_rfl) (by rfl) (by kernel_rfl) ?_ (fun hHeld => ?_)
          · ((try dsimp only) <;> (first | trivial | assumption | go_keep))
          clear y6 q0 q1
          refine tk 0 ?_
          refine tk 1 ?_
          refine tk 2 ?_
          refine tk 3 ?_
          refine tk 4 ?_
          refine tk 5 ?_
          refine tk 6 ?_
          refine tk 7 ?_
          refine tk 8 ?_
          refine tk 9 ?_
          refine tk 10 ?_
          refine tk 11 ?_
          refine tk 12 ?_
          refine tk 13 ?_
          refine tk 14 ?_
          refine tk 15 ?_
          refine tk 16 ?_
          refine tk 17 ?_
          refine tk 18 ?_
          clear hHeld hwx hb
          replace XL := hide XL.out.drew
          replace X6 := hide X6.out.drew
          replace X4 := hide X4.out.drew
          replace XC := hide XC.out.drew
          replace BW := hide BW.out.drew
          generalize wr.drew = w3 at *
          obtain ⟨e0, hE0⟩ : ∃ e, (ldL n bs p)[p]? = some e := ⟨_, List.getElem?_eq_getElem (by rw [ldL_len]; exact hpnn)⟩
          obtain ⟨c0, c1, c2, c3⟩ := in_cells XL.out hE0
          generalize e0.ver = v0 at c0
          generalize e0.addr = v1 at c1
          generalize e0.busy = v2 at c2
          have f0 := XL.out.frozen (p * 4)
          have f1 := XL.out.frozen (p * 4 + 1)
          have f2 := XL.out.frozen (p * 4 + 2)
          have f3 := XL.out.frozen (p * 4 + 3)
          clear hE0
          refine wpAnyH_done (by kernel_rfl) ?_ _
          refine LastQ.step (by simp only [List.getElem?_toArray, List.getElem?_cons_succ, List.getElem?_cons_zero]; rfl) (by rfl) ?_
          go_simp
          refine NoPanic.normal ?_
          have XF := (((XL.out.set (p * 4) (.int .i64 (ev : Int))).set (p * 4 + 1) (.int .i64 (ea : Int))).set (p * 4 + 2) (.bool bz)).set (p * 4 + 3) (.bool false)
          have hs := inC_set (ldL n bs p) p (by rw [ldL_len]; exact hpnn) ⟨ea, ev, bz⟩
          dsimp only at hs
          rw [hs, HBZ.out, HSET.out] at XF
          rw [HBZ.out]
          have XF6 := (((X6.out.far (p := ⟨g, p * 4, none⟩) G6.out.1 (.int .i64 (ev : Int))).far (p := ⟨g, p * 4 + 1, none⟩) G6.out.1 (.int .i64 (ea : Int))).far (p := ⟨g, p * 4 + 2, none⟩) G6.out.1 (.bool (decide (ea ≠ 0)))).far (p := ⟨g, p * 4 + 3, none⟩) G6.out.1 (.bool false)
          have XF4 := (((X4.out.far (p := ⟨g, p * 4, none⟩) GG.out.2 (.int .i64 (ev : Int))).far (p := ⟨g, p * 4 + 1, none⟩) GG.out.2 (.int .i64 (ea : Int))).far (p := ⟨g, p * 4 + 2, none⟩) GG.out.2 (.bool (decide (ea ≠ 0)))).far (p := ⟨g, p * 4 + 3, none⟩) GG.out.2 (.bool false)
          have XFC := (((XC.out.far (p := ⟨g, p * 4, none⟩) GC.out.1 (.int .i64 (ev : Int))).far (p := ⟨g, p * 4 + 1, none⟩) GC.out.1 (.int .i64 (ea : Int))).far (p := ⟨g, p * 4 + 2, none⟩) GC.out.1 (.bool (decide (ea ≠ 0)))).far (p := ⟨g, p * 4 + 3, none⟩) GC.out.1 (.bool false)
          have XFB := (((BW.out.setCell (p := ⟨g, p * 4, none⟩) GG.out.1 (.int .i64 (ev : Int))).setCell (p := ⟨g, p * 4 + 1, none⟩) GG.out.1 (.int .i64 (ea : Int))).setCell (p := ⟨g, p * 4 + 2, none⟩) GG.out.1 (.bool (decide (ea ≠ 0)))).setCell (p := ⟨g, p * 4 + 3, none⟩) GG.out.1 (.bool false)
          generalize (((w3.setCell ⟨g, p * 4, none⟩ (.int .i64 (ev : Int))).setCell ⟨g, p * 4 + 1, none⟩ (.int .i64 (ea : Int))).setCell ⟨g, p * 4 + 2, none⟩ (.bool (decide (ea ≠ 0)))).setCell ⟨g, p * 4 + 3, none⟩ (.bool false) = w9 at *
          have HF := hide (And.intro XF (And.intro XF6 (And.intro XF4 (And.intro XFC XFB))))
          clear XF XF6 XF4 XFC XFB c0 c1 c2 c3 f0 f1 f2 f3 hs
          go_wp2_with fail
          go_roundw
          case rel => exact ⟨k + 1, hkl, by go_num, by rw [HPK.out]; exact HOKN.out, by rw [HPK.out]; exact HF.out.1, HF.out.2.1, HF.out.2.2.1, HF.out.2.2.2.1, HF.out.2.2.2.2⟩
          case measure => simp [intOf]; omega
        · have hx1 : ((x : Int) == 1) = false := beq_eq_false_iff_ne.2 (by omega)
          have hxn : ¬ (n : Int) < (x : Int) := by omega
          have hpn0 : p < n := HXP.out.1 h2
          have hset : (ldL n bs p).set p ⟨ea, ev, decide (ea ≠ 0)⟩ = ldL n bs (p + 1) := by
            have := ldL_set (n := n) bs h3 (by omega)
            rw [← HE.out] at this
            exact this
          have hokn := okP_succ HOK.out (fun h => absurd h (by omega))
          have hxn2 : (x : Int) ≤ (n : Int) := by omega
          have HSET := hide hset
          have HOKN := hide hokn
          have hpn : (p : Int) < (n : Int) := by omega
          have hpnn : p < n := by omega
          have y6 := X6.out.cell 0
          simp only [List.getElem?_toArray, List.getElem?_cons_zero] at y6
          clear hset hokn
          go_upto_region 19 with fail
          obtain ⟨bz, hbz⟩ : ∃ b, b = decide (ea ≠ 0) := ⟨_, rfl⟩
          have hb : ((ea : Int) != 0) = bz := by rw [hbz, Bool.eq_iff_iff, bne_iff_ne, decide_eq_true_iff]; omega
          have HBZ := hide hbz
          clear hbz
          refine wp_region_noPanic ?_
          refine wp_region_last (n := 19) (S := (fun w' => w'.cell? ⟨g6, 0, none⟩ = some (.slice (some ⟨g, 0, none⟩) n n) ∧ w'.cell? ⟨gc, k * 2, none⟩ = some (.int .i64 (ea : Int)) ∧ w'.cell? ⟨gc, k * 2 + 1, none⟩ = some (.int .i64 (ev : Int)))) (by kernel_rfl) (by rfl) (by kernel_rfl) ?_ (fun hHeld => ?_)
          · ((try dsimp only) <;> (first | trivial | assumption | go_keep))
          clear y6 q0 q1
          refine tk 0 ?_
          refine tk 1 ?_
          refine tk 2 ?_
          refine tk 3 ?_
          refine tk 4 ?_
          refine tk 5 ?_
          refine tk 6 ?_
          refine tk 7 ?_
          refine tk 8 ?_
          refine tk 9 ?_
          refine tk 10 ?_
          refine tk 11 ?_
          refine tk 12 ?_
          refine tk 13 ?_
          refine tk 14 ?_
          refine tk 15 ?_
          refine tk 16 ?_
          refine tk 17 ?_
          refine tk 18 ?_
          clear hHeld hwx hb
          replace XL := hide XL.out.drew
          replace X6 := hide X6.out.drew
          replace X4 := hide X4.out.drew
          replace XC := hide XC.out.drew
          replace BW := hide BW.out.drew
          generalize wr.drew = w3 at *
          obtain ⟨e0, he0⟩ : ∃ e, (ldL n bs p)[p]? = some e := ⟨_, List.getElem?_eq_getElem (by rw [ldL_len]; exact hpnn)⟩
          obtain ⟨c0, c1, c2, c3⟩ := in_cells XL.out he0
          generalize e0.ver = v0 at c0
          generalize e0.addr = v1 at c1
          generalize e0.busy = v2 at c2
          have f0 := XL.out.frozen (p * 4)
          have f1 := XL.out.frozen (p * 4 + 1)
          have f2 := XL.out.frozen (p * 4 + 2)
          have f3 := XL.out.frozen (p * 4 + 3)
          clear he0
          refine wpAnyH_done (by kernel_rfl) ?_ _
          refine LastQ.step (by simp only [List.getElem?_toArray, List.getElem?_cons_succ, List.getElem?_cons_zero]; rfl) (by rfl) ?_
          go_simp
          refine NoPanic.normal ?_
          have XF := (((XL.out.set (p * 4) (.int .i64 (ev : Int))).set (p * 4 + 1) (.int .i64 (ea : Int))).set (p * 4 + 2) (.bool bz)).set (p * 4 + 3) (.bool false)
          have hs := inC_set (ldL n bs p) p (by rw [ldL_len]; exact hpnn) ⟨ea, ev, bz⟩
          dsimp only at hs
          rw [hs, HBZ.out, HSET.out] at XF
          rw [HBZ.out]
          have XF6 := (((X6.out.far (p := ⟨g, p * 4, none⟩) G6.out.1 (.int .i64 (ev : Int))).far (p := ⟨g, p * 4 + 1, none⟩) G6.out.1 (.int .i64 (ea : Int))).far (p := ⟨g, p * 4 + 2, none⟩) G6.out.1 (.bool (decide (ea ≠ 0)))).far (p := ⟨g, p * 4 + 3, none⟩) G6.out.1 (.bool false)
          have XF4 := (((X4.out.far (p := ⟨g, p * 4, none⟩) GG.out.2 (.int .i64 (ev : Int))).far (p := ⟨g, p * 4 + 1, none⟩) GG.out.2 (.int .i64 (ea : Int))).far (p := ⟨g, p * 4 + 2, none⟩) GG.out.2 (.bool (decide (ea ≠ 0)))).far (p := ⟨g, p * 4 + 3, none⟩) GG.out.2 (.bool false)
          have XFC := (((XC.out.far (p := ⟨g, p * 4, none⟩) GC.out.1 (.int .i64 (ev : Int))).far (p := ⟨g, p * 4 + 1, none⟩) GC.out.1 (.int .i64 (ea : Int))).far (p := ⟨g, p * 4 + 2, none⟩) GC.out.1 (.bool (decide (ea ≠ 0)))).far (p := ⟨g, p * 4 + 3, none⟩) GC.out.1 (.bool false)
          have XFB := (((BW.out.setCell (p := ⟨g, p * 4, none⟩) GG.out.1 (.int .i64 (ev : Int))).setCell (p := ⟨g, p * 4 + 1, none⟩) GG.out.1 (.int .i64 (ea : Int))).setCell (p := ⟨g, p * 4 + 2, none⟩) GG.out.1 (.bool (decide (ea ≠ 0)))).setCell (p := ⟨g, p * 4 + 3, none⟩) GG.out.1 (.bool false)
          generalize (((w3.setCell ⟨g, p * 4, none⟩ (.int .i64 (ev : Int))).setCell ⟨g, p * 4 + 1, none⟩ (.int .i64 (ea : Int))).setCell ⟨g, p * 4 + 2, none⟩ (.bool (decide (ea ≠ 0)))).setCell ⟨g, p * 4 + 3, none⟩ (.bool false) = w9 at *
          have HF := hide (And.intro XF (And.intro XF6 (And.intro XF4 (And.intro XFC XFB))))
          clear XF XF6 XF4 XFC XFB c0 c1 c2 c3 f0 f1 f2 f3 hs
          go_wp2_with fail
          go_roundw
          case rel => exact ⟨k + 1, hkl, by go_num, by rw [HPK.out]; exact HOKN.out, by rw [HPK.out]; exact HF.out.1, HF.out.2.1, HF.out.2.2.1, HF.out.2.2.2.1, HF.out.2.2.2.2⟩
          case measure => simp [intOf]; omega
end Go.Proofs.Ytbmblofhogihdaa
