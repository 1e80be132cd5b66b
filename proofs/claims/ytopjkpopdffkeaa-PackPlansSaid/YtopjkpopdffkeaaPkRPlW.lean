/- The walk over marlref13.Plan. (Printed by gen_pkrpl.py.) -/
import Derived.Test.YtopjkpopdffkeaaPkRPr
namespace Go.Proofs.Ytopjkpopdffkeaa
open Go.RowKit
attribute [local go_sem ↓] Go.wp_at_zero Go.wp_at_succ

/-- What the reference's Plan answers. -/
def RPlanQ (base : Nat) (w' : World) (e : Ending) : Option RSt → Prop
  | none => e = .returned (.tuple #[.slice none 0 0, .int .i64 27])
  | some st => ∃ B d, e = .returned (.tuple #[.slice B st.out.length d, .int .i64 0]) ∧ RpR base w' B st.out.length d st.out
theorem goR_step {sz : Int} {x : RI} {xs : List RI} {st : RSt} (h : ¬ 64 < (rstep sz st x).out.length) : goR sz (x :: xs) st = goR sz xs (rstep sz st x) := by rw [goR, if_neg h]
theorem goR_stop {sz : Int} {x : RI} {xs : List RI} {st : RSt} (h : 64 < (rstep sz st x).out.length) : goR sz (x :: xs) st = none := by rw [goR, if_pos h]
theorem lastR_at {st : RSt} {q : Nat} (h : st.out.length = q + 1) : st.out[q]? = some (lastR st) := by
  unfold lastR
  rw [List.getLastD_eq_getLast?, List.getLast?_eq_getElem?, h, Nat.add_sub_cancel, List.getElem?_eq_getElem (by omega)]
  rfl
theorem drop_at {α : Type} {l : List α} {i : Nat} {x : α} (h : l[i]? = some x) : l.drop i = x :: l.drop (i + 1) := by
  have hi := (List.getElem?_eq_some_iff.1 h).1
  rw [List.drop_eq_getElem_cons hi]
  rw [List.getElem?_eq_getElem hi] at h
  injection h with h
  rw [h]
set_option maxRecDepth 100000 in
set_option maxHeartbeats 8000000 in
theorem rplan_good (A A' : Option Addr) (m c m' c' lo base lo' base' : Nat) (files : List FI) (inos : List Int) (left size : Int) (w : World) (hf : FisAt lo base w A m files) (hi : IntsAt lo' base' w A' m' inos) (hm : m ≤ 300) (hm' : m' ≤ 300) (hl : lsN files ≤ 300) (hg : ¬ badP left size) :
    Calls Try.prog 11 #[.slice A m c, .slice A' m' c', .int .i64 left, .int .i64 size] w fun e w' => Below w.heap.size w w' ∧ RPlanQ w.heap.size w' e (goR size (refA files inos) ⟨[], left⟩) := by
  unfold badP at hg
  have g1 : ¬ size < 8 := fun h => hg (.inl h)
  have g2 : ¬ 64 < size := fun h => hg (.inr (.inl h))
  have g3 : ¬ left < 0 := fun h => hg (.inr (.inr (.inl h)))
  have g4 : ¬ size < left := fun h => hg (.inr (.inr (.inr h)))
  obtain ⟨R, hR⟩ : ∃ R, R = goR size (refA files inos) ⟨[], left⟩ := ⟨_, rfl⟩
  have HR := hide hR
  have HRL := hide (show (refA files inos).length ≤ 600 by
    unfold refA
    rw [List.length_append, List.length_map, refF_len, IntsAt.len hi]
    omega)
  have CI := items_any A A' m c m' c' lo base lo' base' files inos w hf hi (by omega) (by omega) (by omega)
  have HCI := hide CI
  rw [← hR]
  clear hR hf hi hl hg CI
  go_enter Try.func11, Try.ntmps11
  go_wp2_with fail
  refine HCI.out.mono ?_
  rintro e w1 ⟨B1, N, d1, rfl, hIt, hb⟩
  have HIt := hide hIt
  have HIL := hide (ItAt.len hIt)
  have B1' := hide hb
  clear hIt hb HCI
  generalize refA files inos = l at *
  have hN : N ≤ 600 := by have := HIL.out; have := HRL.out; omega
  go_wp2_with fail
  have lt2 := fun w xs h => one_item w xs h
  have lr2 := fun w xs h => one_rp w xs h
  go_loopw [2, 10, 36] (fun lf v y wr => ∃ (i : Nat) (st : RSt) (n : Nat) (B : Option Addr) (d : Nat), i ≤ N ∧ y = .int .i64 (i : Int) ∧ lf = .int .i64 st.left ∧ n = st.out.length ∧ v = .slice B n d ∧ RpR w.heap.size wr B n d st.out ∧ Kt TR w.heap.size w1 wr ∧ n ≤ 64 ∧ (∀ p ∈ st.out, p.2.length ≤ i) ∧ (-(1000 * (i : Int)) ≤ st.left ∧ st.left ≤ 64) ∧ R = goR size (l.drop i) st) (fun _ _ y _ => N - (intOf y).toNat)
  case atStart => exact ⟨0, ⟨[], left⟩, 0, none, 0, Nat.zero_le _, rfl, rfl, rfl, rfl, RpR.nil, Kt.refl _ _ _, Nat.zero_le _, by simp, ⟨by show -(1000 * ((0 : Nat) : Int)) ≤ left; omega, by show left ≤ 64; omega⟩, HR.out⟩
  case round =>
    obtain ⟨i, st, n, B, d, hiN, rfl, rfl, hn, rfl, hP, hK, hn64, hps, hlf, hRR⟩ := hrel
    have HN := hide hn
    have HP := hide hP
    have HK := hide hK
    have HPS := hide hps
    have HRR := hide hRR
    have HBW := hide (B1'.out.trans (hK.below B1'.out.size))
    obtain ⟨lv0, hlv0⟩ : ∃ x, x = st.left := ⟨_, rfl⟩
    rw [← hlv0] at hlf ⊢
    have HLV0 := hide hlv0
    clear hn hP hK hps hRR hlv0
    by_cases hlt : i < N
    · obtain ⟨b, off, x, hA, hbl, hx, z0, z1⟩ := ItAt.get (RwAt.kt HIt.out HK.out (by decide)) hlt
      subst hA
      have HX := hide hx
      have HBL := hide hbl
      obtain ⟨xf, hxf⟩ : ∃ z, z = x.1 := ⟨_, rfl⟩
      obtain ⟨xn, hxn⟩ : ∃ z, z = x.2 := ⟨_, rfl⟩
      have HXE := hide (show x = (xf, xn) by rw [hxf, hxn])
      rw [← hxf] at z0
      rw [← hxn] at z1
      have hRD := hide (drop_at hx)
      clear hx hbl hxf hxn
      have his : (i : Int) < (N : Int) := by omega
      have hi64 : IntKind.i64.wrap (i : Int) = (i : Int) := by rw [IntKind.wrap_i64]; omega
      by_cases hn0 : n = 0
      · have hnp : ¬ (0 : Int) < (n : Int) := by omega
        have hout : st.out = [] := List.eq_nil_of_length_eq_zero (by rw [← HN.out]; exact hn0)
        obtain ⟨lv, hlv⟩ : ∃ z, z = lv0 := ⟨_, rfl⟩
        have HST : Hid (rstep size st x = begR size st.out lv x) := hide (by unfold rstep; rw [if_pos hout, hlv, HLV0.out])
        have hlb : -(1000 * (i : Int)) - 700 ≤ lv ∧ lv ≤ 64 := by omega
        rw [← hlv]
        clear hlv hout hn0
        have HPw := hide HP.out
        have HKw := hide HK.out
        have HBw := hide HBW.out
        by_cases hl3 : lv < 3
        · go_upto_region 17 with fail
          obtain ⟨w5, hw5⟩ : ∃ Z, Z = ((wr.alloc (.cells #[.int .i64 xf, .int .i64 xn] 61)).alloc (.cells #[.bool true, .slice (some ⟨wr.heap.size, 0, none⟩) 1 1] 43)) := ⟨_, rfl⟩
          have K5 : Hid (Blk w5 (wr.heap.size + 1) 43 #[.bool true, .slice (some ⟨wr.heap.size, 0, none⟩) 1 1]) := hide (by
            rw [hw5]
            have := Blk.new (wr.alloc (.cells #[.int .i64 xf, .int .i64 xn] 61)) 43 #[.bool true, .slice (some ⟨wr.heap.size, 0, none⟩) 1 1]
            rwa [World.size_alloc] at this)
          have BA : Hid (Below wr.heap.size wr w5) := hide (by rw [hw5]; exact ((Below.refl _ _).alloc (Nat.le_refl _) _).alloc (by simp) _)
          have I5 : Hid (ItAt w.heap.size w.heap.size w5 (some ⟨wr.heap.size, 0, none⟩) 1 [x]) := hide (by
            have h0 : Blk w5 wr.heap.size 61 #[.int .i64 xf, .int .i64 xn] := by rw [hw5]; exact (Blk.new _ _ _).alloc _
            rw [HXE.out]
            refine ⟨rfl, fun j u hu => ⟨wr.heap.size, 0, rfl, ⟨HBw.out.size, h0.lt, .inr ⟨_, h0⟩⟩, ?_⟩⟩
            rw [Nat.zero_add, h0.cell]
            simpa [b2C, b2] using hu)
          have P5 := hide (HPw.out.below BA.out)
          have KK5 := hide (HKw.out.trans (Kt.of_below BA.out))
          have BB5 := hide (HBw.out.trans (BA.out.mono HBw.out.size))
          rw [← hw5]
          clear hw5 z0 z1
          have y0 := K5.out.cell 0
          have y1 := K5.out.cell 1
          simp only [List.getElem?_toArray, List.getElem?_cons_succ, List.getElem?_cons_zero] at y0 y1
          go_upto_region 18 with (
            at_builtin
            obtain ⟨cs, e1, e2, e3, e4⟩ := P5.out
            have HH := hide (And.intro e1 e2)
            have E4 := hide (fun (k : Nat) (y : List Value) (g : RP) (hx : cs[k]? = some y) (hg : st.out[k]? = some g) => (e4 k y g hx hg).kt (T := []) (Kt.of_below ((Below.refl w5.heap.size w5).alloc (Nat.le_refl _) (.cells #[.bool true, .slice (some ⟨wr.heap.size, 0, none⟩) 1 1] 43))) (by simp))
            have E3 := hide (own_bel e3 ((Below.refl w5.heap.size w5).alloc (Nat.le_refl _) (.cells #[.bool true, .slice (some ⟨wr.heap.size, 0, none⟩) 1 1] 43)))
            clear e1 e2 e3 e4
            refine wpList_appK rfl (.tmp 87) (.tmp 89) _ rfl etyRp w.heap.size (.slice B n d) n cs.flatten rfl E3.out (w5.heap.size + 1) (some ⟨w5.heap.size, 0, none⟩) 1 1 [.bool true, .slice (some ⟨wr.heap.size, 0, none⟩) 1 1] rfl (slc_new w5 [.bool true, .slice (some ⟨wr.heap.size, 0, none⟩) 1 1] _ rfl) (by intro u hu; simp only [List.mem_cons, List.not_mem_nil, or_false] at hu; rcases hu with rfl | rfl <;> rfl) (by omega) (Nat.le_trans BB5.out.size (by simp)) ?_
            intro A9 c9 w9 hown hg hnew
            have PU := hide (RpR.push (p := (true, [x])) HH.out.1 HH.out.2 E3.out E4.out (show RpC w.heap.size _ [.bool true, .slice (some ⟨wr.heap.size, 0, none⟩) 1 1] (true, [x]) from ⟨_, 1, rfl, RwAt.below I5.out ((Below.refl _ _).alloc (Nat.le_refl _) _)⟩) rfl hown hg)
            have KU := hide (KK5.out.trans ((Kt.of_below ((Below.refl w5.heap.size w5).alloc (Nat.le_refl _) (.cells #[.bool true, .slice (some ⟨wr.heap.size, 0, none⟩) 1 1] 43))).trans PU.out.2))
            clear hown hg hnew)
          have HSS : Hid (rstep size st x = ⟨st.out ++ [(true, [x])], size⟩) := hide (by rw [HST.out]; unfold begR; rw [decide_eq_true hl3, if_pos hl3])
          have BU := hide (B1'.out.trans (KU.out.below B1'.out.size))
          have hlen : Hid ((rstep size st x).out.length = n + 1) := hide (by rw [HSS.out]; show (st.out ++ _).length = _; rw [List.length_append, ← HN.out]; rfl)
          clear y0 y1
          by_cases h64 : 64 < n + 1
          · exfalso; omega
          · have h64' : ¬ (64 : Int) < ((n + 1 : Nat) : Int) := by omega
            go_wp2_with fail
            go_roundw
            case rel =>
              refine ⟨i + 1, rstep size st x, n + 1, A9, c9, by omega, by go_num, by rw [HSS.out], hlen.out.symm, rfl, by rw [HSS.out]; exact PU.out.1, KU.out, by omega, ?_, by rw [HSS.out]; show _ ≤ size ∧ size ≤ 64; omega, by rw [HRR.out, hRD.out, goR_step (by rw [hlen.out]; exact h64)]⟩
              rw [HSS.out]
              intro z hz
              rcases List.mem_append.1 hz with hz | hz
              · have := HPS.out z hz; omega
              · rw [List.mem_singleton.1 hz]; show 1 ≤ i + 1; omega
            case measure => simp [intOf]; omega
        · go_upto_region 17 with fail
          obtain ⟨w5, hw5⟩ : ∃ Z, Z = ((wr.alloc (.cells #[.int .i64 xf, .int .i64 xn] 61)).alloc (.cells #[.bool false, .slice (some ⟨wr.heap.size, 0, none⟩) 1 1] 43)) := ⟨_, rfl⟩
          have K5 : Hid (Blk w5 (wr.heap.size + 1) 43 #[.bool false, .slice (some ⟨wr.heap.size, 0, none⟩) 1 1]) := hide (by
            rw [hw5]
            have := Blk.new (wr.alloc (.cells #[.int .i64 xf, .int .i64 xn] 61)) 43 #[.bool false, .slice (some ⟨wr.heap.size, 0, none⟩) 1 1]
            rwa [World.size_alloc] at this)
          have BA : Hid (Below wr.heap.size wr w5) := hide (by rw [hw5]; exact ((Below.refl _ _).alloc (Nat.le_refl _) _).alloc (by simp) _)
          have I5 : Hid (ItAt w.heap.size w.heap.size w5 (some ⟨wr.heap.size, 0, none⟩) 1 [x]) := hide (by
            have h0 : Blk w5 wr.heap.size 61 #[.int .i64 xf, .int .i64 xn] := by rw [hw5]; exact (Blk.new _ _ _).alloc _
            rw [HXE.out]
            refine ⟨rfl, fun j u hu => ⟨wr.heap.size, 0, rfl, ⟨HBw.out.size, h0.lt, .inr ⟨_, h0⟩⟩, ?_⟩⟩
            rw [Nat.zero_add, h0.cell]
            simpa [b2C, b2] using hu)
          have P5 := hide (HPw.out.below BA.out)
          have KK5 := hide (HKw.out.trans (Kt.of_below BA.out))
          have BB5 := hide (HBw.out.trans (BA.out.mono HBw.out.size))
          rw [← hw5]
          clear hw5 z0 z1
          have y0 := K5.out.cell 0
          have y1 := K5.out.cell 1
          simp only [List.getElem?_toArray, List.getElem?_cons_succ, List.getElem?_cons_zero] at y0 y1
          go_upto_region 18 with (
            at_builtin
            obtain ⟨cs, e1, e2, e3, e4⟩ := P5.out
            have HH := hide (And.intro e1 e2)
            have E4 := hide (fun (k : Nat) (y : List Value) (g : RP) (hx : cs[k]? = some y) (hg : st.out[k]? = some g) => (e4 k y g hx hg).kt (T := []) (Kt.of_below ((Below.refl w5.heap.size w5).alloc (Nat.le_refl _) (.cells #[.bool false, .slice (some ⟨wr.heap.size, 0, none⟩) 1 1] 43))) (by simp))
            have E3 := hide (own_bel e3 ((Below.refl w5.heap.size w5).alloc (Nat.le_refl _) (.cells #[.bool false, .slice (some ⟨wr.heap.size, 0, none⟩) 1 1] 43)))
            clear e1 e2 e3 e4
            refine wpList_appK rfl (.tmp 87) (.tmp 89) _ rfl etyRp w.heap.size (.slice B n d) n cs.flatten rfl E3.out (w5.heap.size + 1) (some ⟨w5.heap.size, 0, none⟩) 1 1 [.bool false, .slice (some ⟨wr.heap.size, 0, none⟩) 1 1] rfl (slc_new w5 [.bool false, .slice (some ⟨wr.heap.size, 0, none⟩) 1 1] _ rfl) (by intro u hu; simp only [List.mem_cons, List.not_mem_nil, or_false] at hu; rcases hu with rfl | rfl <;> rfl) (by omega) (Nat.le_trans BB5.out.size (by simp)) ?_
            intro A9 c9 w9 hown hg hnew
            have PU := hide (RpR.push (p := (false, [x])) HH.out.1 HH.out.2 E3.out E4.out (show RpC w.heap.size _ [.bool false, .slice (some ⟨wr.heap.size, 0, none⟩) 1 1] (false, [x]) from ⟨_, 1, rfl, RwAt.below I5.out ((Below.refl _ _).alloc (Nat.le_refl _) _)⟩) rfl hown hg)
            have KU := hide (KK5.out.trans ((Kt.of_below ((Below.refl w5.heap.size w5).alloc (Nat.le_refl _) (.cells #[.bool false, .slice (some ⟨wr.heap.size, 0, none⟩) 1 1] 43))).trans PU.out.2))
            clear hown hg hnew)
          have HSS : Hid (rstep size st x = ⟨st.out ++ [(false, [x])], lv⟩) := hide (by rw [HST.out]; unfold begR; rw [decide_eq_false hl3, if_neg hl3])
          have BU := hide (B1'.out.trans (KU.out.below B1'.out.size))
          have hlen : Hid ((rstep size st x).out.length = n + 1) := hide (by rw [HSS.out]; show (st.out ++ _).length = _; rw [List.length_append, ← HN.out]; rfl)
          clear y0 y1
          by_cases h64 : 64 < n + 1
          · exfalso; omega
          · have h64' : ¬ (64 : Int) < ((n + 1 : Nat) : Int) := by omega
            go_wp2_with fail
            go_roundw
            case rel =>
              refine ⟨i + 1, rstep size st x, n + 1, A9, c9, by omega, by go_num, by rw [HSS.out], hlen.out.symm, rfl, by rw [HSS.out]; exact PU.out.1, KU.out, by omega, ?_, by rw [HSS.out]; show _ ≤ lv ∧ lv ≤ 64; omega, by rw [HRR.out, hRD.out, goR_step (by rw [hlen.out]; exact h64)]⟩
              rw [HSS.out]
              intro z hz
              rcases List.mem_append.1 hz with hz | hz
              · have := HPS.out z hz; omega
              · rw [List.mem_singleton.1 hz]; show 1 ≤ i + 1; omega
            case measure => simp [intOf]; omega
      · obtain ⟨q, hq⟩ : ∃ q, n = q + 1 := ⟨n - 1, by omega⟩
        subst hq
        have hnp : (0 : Int) < ((q + 1 : Nat) : Int) := by omega
        have hlast := lastR_at HN.out.symm
        obtain ⟨g, p, P1, e1, hB, hg0, ⟨csg, hgb⟩, hp, hIp, r0, r1, hset⟩ := HP.out.at (j := q) (Nat.lt_succ_self q)
        have ep : p = lastR st := by rw [hlast] at hp; exact (Option.some.inj hp).symm
        subst hB
        have HEP := hide ep
        have HSET := hide hset
        have HIp := hide hIp
        have GLT := hide hgb.lt
        obtain ⟨mp, hmp⟩ : ∃ z, z = p.2.length := ⟨_, rfl⟩
        rw [← hmp] at r1 HIp
        have HMP := hide hmp
        have hmpb : mp ≤ i := by rw [hmp]; exact HPS.out p (List.mem_of_getElem? hp)
        have hout : Hid (st.out ≠ []) := hide (fun e => by have := HN.out; rw [e] at this; cases this)
        clear ep hset hIp hgb hg0 hmp hp hlast r0
        have hq64 : IntKind.i64.wrap (q : Int) = (q : Int) := by rw [IntKind.wrap_i64]; omega
        have hqs : (q : Int) < ((q + 1 : Nat) : Int) := by omega
        have hqs2 : (q : Int) < (q : Int) + 1 := by omega
        have CC := hide (fun (w' : World) (hb : Below wr.heap.size wr w') => show w'.cell? ⟨g, q * 2 + 1, none⟩ = some (.slice P1 mp e1) ∧ w'.cell? ⟨b, off + i * 2, none⟩ = some (.int .i64 xf) ∧ w'.cell? ⟨b, off + i * 2 + 1, none⟩ = some (.int .i64 xn) from
          ⟨(hb.cell (p := ⟨g, q * 2 + 1, none⟩) GLT.out).trans r1, (hb.cell (p := ⟨b, off + i * 2, none⟩) HBL.out).trans z0, (hb.cell (p := ⟨b, off + i * 2 + 1, none⟩) HBL.out).trans z1⟩)
        go_wp2_with fail
        have s0 := CC.out _ (Below.refl _ _).drew
        refine wp_region_noPanic ?_
        refine wp_region_held_drew (S := (fun w' => w'.cell? ⟨g, q * 2 + 1, none⟩ = some (.slice P1 mp e1) ∧ w'.cell? ⟨b, off + i * 2, none⟩ = some (.int .i64 xf) ∧ w'.cell? ⟨b, off + i * 2 + 1, none⟩ = some (.int .i64 xn))) (by kernel_rfl) ?_ (fun hHeld => ?_)
        · ((try dsimp only) <;> (first | trivial | assumption | go_keep))
        clear s0 r1 z0 z1
        have BD := hide ((Below.refl wr.heap.size wr).drew)
        have SI2 := hide ((RwAt.below HIp.out BD.out).slc)
        obtain ⟨w2, hw2⟩ : ∃ W, W = wr.drew := ⟨_, rfl⟩
        rw [← hw2] at hHeld BD SI2 ⊢
        have SZ2 : Hid (w2.heap.size = wr.heap.size) := hide (by rw [hw2]; rfl)
        clear hw2
        refine wpAnyH_take (i := 1) (v := ?_) (by simp only [List.getElem?_toArray, List.getElem?_cons_succ, List.getElem?_cons_zero]; rfl) (by kernel_rfl) (by kernel_rfl) (by kernel_rfl) (fun _ _ _ h => h) (Or.inl ⟨by rfl, ?_⟩) (by assumption) ?_
        rotate_left 1
        · (intro w hSw; (try dsimp only at hSw); go_simp; try with_reducible rfl)
        try simp only [Act.put, List.setIfInBounds_toArray, List.set_cons_zero, List.set_cons_succ]
        refine wpAnyH_take (i := 2) (v := ?_) (by simp only [List.getElem?_toArray, List.getElem?_cons_succ, List.getElem?_cons_zero]; rfl) (by kernel_rfl) (by kernel_rfl) (by kernel_rfl) (fun _ _ _ h => h) (Or.inl ⟨by rfl, ?_⟩) (by assumption) ?_
        rotate_left 1
        · (intro w hSw; (try dsimp only at hSw); go_simp; try with_reducible rfl)
        try simp only [Act.put, List.setIfInBounds_toArray, List.set_cons_zero, List.set_cons_succ]
        refine wpAnyH_take (i := 3) (v := ?_) (by simp only [List.getElem?_toArray, List.getElem?_cons_succ, List.getElem?_cons_zero]; rfl) (by kernel_rfl) (by kernel_rfl) (by kernel_rfl) (fun _ _ _ h => h) (Or.inl ⟨by rfl, ?_⟩) (by assumption) ?_
        rotate_left 1
        · (intro w hSw; (try dsimp only at hSw); go_simp; try with_reducible rfl)
        try simp only [Act.put, List.setIfInBounds_toArray, List.set_cons_zero, List.set_cons_succ]
        refine wpAnyH_take (i := 4) (v := ?_) (by simp only [List.getElem?_toArray, List.getElem?_cons_succ, List.getElem?_cons_zero]; rfl) (by kernel_rfl) (by kernel_rfl) (by kernel_rfl) (fun _ _ _ h => h) (Or.inl ⟨by rfl, ?_⟩) (by assumption) ?_
        rotate_left 1
        · (intro w hSw; (try dsimp only at hSw); go_simp; try with_reducible rfl)
        try simp only [Act.put, List.setIfInBounds_toArray, List.set_cons_zero, List.set_cons_succ]
        refine wpAnyH_take (i := 5) (v := ?_) (by simp only [List.getElem?_toArray, List.getElem?_cons_succ, List.getElem?_cons_zero]; rfl) (by kernel_rfl) (by kernel_rfl) (by kernel_rfl) (fun _ _ _ h => h) (Or.inl ⟨by rfl, ?_⟩) (by assumption) ?_
        rotate_left 1
        · (intro w hSw; (try dsimp only at hSw); go_simp; try with_reducible rfl)
        try simp only [Act.put, List.setIfInBounds_toArray, List.set_cons_zero, List.set_cons_succ]
        refine wpAnyH_take (i := 6) (v := ?_) (by simp only [List.getElem?_toArray, List.getElem?_cons_succ, List.getElem?_cons_zero]; rfl) (by kernel_rfl) (by kernel_rfl) (by kernel_rfl) (fun _ _ _ h => h) (Or.inl ⟨by rfl, ?_⟩) (by assumption) ?_
        rotate_left 1
        · (intro w hSw; (try dsimp only at hSw); go_simp; try with_reducible rfl)
        try simp only [Act.put, List.setIfInBounds_toArray, List.set_cons_zero, List.set_cons_succ]
        refine wpAnyH_take (i := 8) (v := ?_) (by simp only [List.getElem?_toArray, List.getElem?_cons_succ, List.getElem?_cons_zero]; rfl) (by kernel_rfl) (by kernel_rfl) (by kernel_rfl) (fun _ _ _ h => h) (Or.inl ⟨by rfl, ?_⟩) (by assumption) ?_
        rotate_left 1
        · (intro w hSw; (try dsimp only at hSw); go_simp; try with_reducible rfl)
        try simp only [Act.put, List.setIfInBounds_toArray, List.set_cons_zero, List.set_cons_succ]
        refine wpAnyH_take (i := 9) (v := ?_) (by simp only [List.getElem?_toArray, List.getElem?_cons_succ, List.getElem?_cons_zero]; rfl) (by kernel_rfl) (by kernel_rfl) (by kernel_rfl) (fun _ _ _ h => h) (Or.inl ⟨by rfl, ?_⟩) (by assumption) ?_
        rotate_left 1
        · (intro w hSw; (try dsimp only at hSw); go_simp; try with_reducible rfl)
        try simp only [Act.put, List.setIfInBounds_toArray, List.set_cons_zero, List.set_cons_succ]
        refine wpAnyH_take (i := 10) (v := ?_) (by simp only [List.getElem?_toArray, List.getElem?_cons_succ, List.getElem?_cons_zero]; rfl) (by kernel_rfl) (by kernel_rfl) (by kernel_rfl) (fun _ _ _ h => h) (Or.inl ⟨by rfl, ?_⟩) (by assumption) ?_
        rotate_left 1
        · (intro w hSw; (try dsimp only at hSw); go_simp; try with_reducible rfl)
        try simp only [Act.put, List.setIfInBounds_toArray, List.set_cons_zero, List.set_cons_succ]
        refine wpAnyH_take (i := 11) (v := ?_) (by simp only [List.getElem?_toArray, List.getElem?_cons_succ, List.getElem?_cons_zero]; rfl) (by kernel_rfl) (by kernel_rfl) (by kernel_rfl) (fun _ _ _ h => h) (Or.inl ⟨by rfl, ?_⟩) (by assumption) ?_
        rotate_left 1
        · (intro w hSw; (try dsimp only at hSw); go_simp; try with_reducible rfl)
        try simp only [Act.put, List.setIfInBounds_toArray, List.set_cons_zero, List.set_cons_succ]
        refine region_rows (fuel := 1) (w0 := w2) (base := w2.heap.size) (stop := 14) (C := [⟨0, 43, [], [], RowFK 61 2 w2.heap.size []⟩, ⟨7, 50, [0], [0], RowFK 61 2 w2.heap.size (b2C p.2)⟩, ⟨12, 55, [], [], BufFK 61 w2.heap.size 1 [.int .i64 xf, .int .i64 xn]⟩, ⟨13, 56, [7], [7, 12], RowFK 61 2 w2.heap.size (b2C p.2 ++ [.int .i64 xf, .int .i64 xn])⟩])
          (ok_of_cd (by kernel_rfl)) ?hok ?hst ?hS (Below.refl _ _) (Nat.le_refl _) ?hend
        case hok =>
          intro y hy
          simp only [List.mem_cons, List.not_mem_nil, or_false] at hy
          rcases hy with rfl | rfl | rfl | rfl
          · exact rowFK_ok _ _ _ _ _ _ _ _
          · exact rowFK_ok _ _ _ _ _ _ _ _
          · exact bufFK_ok _ _ _ _ _ _ _ _
          · exact rowFK_ok _ _ _ _ _ _ _ _
        case hS =>
          intro w' hb _
          exact CC.out w' (BD.out.trans (hb.mono (by rw [SZ2.out]; exact Nat.le_refl _)))
        case hst =>
          have hlp : (b2C p.2).length ≤ 1400 := by rw [b2C_len, ← HMP.out]; omega
          intro y hy
          simp only [List.mem_cons, List.not_mem_nil, or_false] at hy
          rcases hy with rfl | rfl | rfl | rfl
          · exact step_emptyK etyIt (by simp only [List.getElem?_toArray, List.getElem?_cons_succ, List.getElem?_cons_zero]; rfl) (by rfl) (by rfl) (by rfl) rfl
          · exact step_srcK etyIt (by simp only [List.getElem?_toArray, List.getElem?_cons_succ, List.getElem?_cons_zero]; rfl) (by rfl) (by rfl) 43 49 (by rfl) ⟨0, 43, [], [], RowFK 61 2 w2.heap.size []⟩ (by simp) rfl (by simp) (by simp) [] rfl (by intro z hz; simp only [List.mem_cons, List.not_mem_nil, or_false] at hz; rcases hz with rfl | rfl | rfl | rfl <;> simp) _ P1 mp e1 (b2C p.2) (by rfl) SI2.out (by exact Nat.le_refl _) (b2C_one _) (by simp; omega) rfl
          · exact step_bufK etyIt (by decide) (by simp only [List.getElem?_toArray, List.getElem?_cons_succ, List.getElem?_cons_zero]; rfl) (by rfl) (by rfl) 54 (by rfl) (by intro z hz; simp only [List.mem_cons, List.not_mem_nil, or_false] at hz; rcases hz with rfl | rfl | rfl | rfl <;> simp) #[.int .i64 xf, .int .i64 xn] rfl (by rfl) rfl
          · exact step_addK etyIt (by simp only [List.getElem?_toArray, List.getElem?_cons_succ, List.getElem?_cons_zero]; rfl) (by rfl) (by rfl) 50 55 (by rfl) ⟨7, 50, [0], [0], RowFK 61 2 w2.heap.size (b2C p.2)⟩ (by simp) rfl (by simp) (by simp) (b2C p.2) rfl ⟨12, 55, [], [], BufFK 61 w2.heap.size 1 [.int .i64 xf, .int .i64 xn]⟩ (by simp) rfl (by simp) 1 [.int .i64 xf, .int .i64 xn] rfl rfl (by intro u hu; simp only [List.mem_cons, List.not_mem_nil, or_false] at hu; rcases hu with rfl | rfl <;> rfl) (by simp; omega) rfl
        case hend =>
          intro vals w3 hb3 hs3 hF hap
          have f6 := hF ⟨13, 56, [7], [7, 12], RowFK 61 2 w2.heap.size (b2C p.2 ++ [.int .i64 xf, .int .i64 xn])⟩ (by simp) (by simp)
          clear hF hap
          simp only at f6
          obtain ⟨A7, n7, c7, hv, ho⟩ := f6
          have hn7 : n7 = mp + 1 := by
            have := ho.1
            rw [List.length_append, b2C_len, ← HMP.out] at this
            simp at this
            omega
          subst hn7
          simp only [List.foldl_cons, List.foldl_nil, hv]
          generalize vals 0 = v0
          generalize vals 7 = v7
          generalize vals 12 = v12
          clear hv
          simp only [Act.put, List.setIfInBounds_toArray, List.set_cons_zero, List.set_cons_succ]
          have I7 : Hid (ItAt w.heap.size w.heap.size w3 A7 (mp + 1) (p.2 ++ [x])) := hide (by
            have e : b2C (p.2 ++ [x]) = b2C p.2 ++ [.int .i64 xf, .int .i64 xn] := by rw [b2C_app, HXE.out]; rfl
            have := (RwAt.of_own (base := w.heap.size) ho).lo_ (lo' := w.heap.size) (by rw [SZ2.out]; exact HBW.out.size)
            rwa [← e] at this)
          have B3 := hide (BD.out.trans (hb3.mono (by rw [SZ2.out]; exact Nat.le_refl _)))
          clear hb3 ho
          have hH3 := CC.out _ B3.out
          clear hHeld
          have hHeld := hH3
          clear hH3
          refine wpAnyH_take (i := 14) (v := ?_) (by simp only [List.getElem?_toArray, List.getElem?_cons_succ, List.getElem?_cons_zero]; rfl) (by kernel_rfl) (by kernel_rfl) (by kernel_rfl) (fun _ _ _ h => h) (Or.inl ⟨by rfl, ?_⟩) (by assumption) ?_
          rotate_left 1
          · (intro w hSw; (try dsimp only at hSw); go_simp; try with_reducible rfl)
          try simp only [Act.put, List.setIfInBounds_toArray, List.set_cons_zero, List.set_cons_succ]
          refine wpAnyH_done (by kernel_rfl) ?_ _
          refine NoPanic.normal ?_
          clear hHeld hs3 SI2 BD
          go_wp2_with fail
          refine (fits_any A7 (mp + 1) c7 _ _ (p.2 ++ [x]) lv0 w3 I7.out (by omega)).mono ?_
          rintro e w4 ⟨rfl, hb⟩
          have B4 := hide (B3.out.trans (hb.mono B3.out.size))
          have I8 := hide (RwAt.below I7.out hb)
          clear hb B3 I7 SZ2
          obtain ⟨s1, z0, z1⟩ := CC.out _ B4.out
          have HP4 := hide (HP.out.below B4.out)
          have HK4 := hide (HK.out.trans (Kt.of_below B4.out))
          have HB4 := hide (HBW.out.trans (B4.out.mono HBW.out.size))
          by_cases hfit : fitsP (p.2 ++ [x]) lv0
          · rw [decide_eq_true hfit]
            have hfr := (HP4.out.at (j := q) (Nat.lt_succ_self q))
            obtain ⟨g', -, -, -, hB', -, ⟨csg', hgb'⟩, -⟩ := hfr
            injection hB' with hB'
            injection hB' with hB' _
            subst hB'
            have f1 := hgb'.frozen (q * 2 + 1)
            have hln : (p.2 ++ [x]).length = mp + 1 := by rw [List.length_append, HMP.out]; rfl
            obtain ⟨S1, S2⟩ := HSET.out w4 A7 c7 (p.2 ++ [x]) B4.out (by rw [hln]; exact I8.out)
            rw [hln] at S1 S2
            have HST : Hid (rstep size st x = { st with out := st.out.set q (p.1, p.2 ++ [x]) }) := hide (by
              unfold rstep
              rw [if_neg hout.out, ← HEP.out, if_pos (by rw [← HLV0.out]; exact hfit), ← HN.out, Nat.add_sub_cancel])
            have HS1 := hide S1
            have HS2 := hide S2
            clear S1 S2 hgb' hfit z0 z1 hln
            go_wp2_with fail
            go_roundw
            case rel =>
              refine ⟨i + 1, rstep size st x, q + 1, some ⟨g, 0, none⟩, d, by omega, by go_num, ?_, ?_, rfl, ?_, HK4.out.trans HS2.out, hn64, ?_, ?_, ?_⟩
              · rw [HST.out, HLV0.out]
              · rw [HST.out]; show q + 1 = (st.out.set q _).length; rw [List.length_set]; exact HN.out
              · rw [HST.out]; exact HS1.out
              · rw [HST.out]
                intro z hz
                rcases List.mem_or_eq_of_mem_set hz with hz | hz
                · have := HPS.out z hz; omega
                · rw [hz]; show (p.2 ++ [x]).length ≤ _; rw [List.length_append, ← HMP.out]; simp; omega
              · rw [HST.out]; show _ ≤ st.left ∧ st.left ≤ 64; rw [← HLV0.out]; omega
              · rw [HRR.out, hRD.out, goR_step]
                rw [HST.out]
                show ¬ 64 < (st.out.set q _).length
                rw [List.length_set, ← HN.out]; omega
            case measure => simp [intOf]; omega
          · rw [decide_eq_false hfit]
            obtain ⟨lv, hlv⟩ : ∃ z, z = lv0 - 2 - (mp : Int) := ⟨_, rfl⟩
            have HST : Hid (rstep size st x = begR size st.out lv x) := hide (by
              unfold rstep
              rw [if_neg hout.out, ← HEP.out, if_neg (by rw [← HLV0.out]; exact hfit), hlv, HLV0.out, HMP.out])
            have hlb : -(1000 * (i : Int)) - 700 ≤ lv ∧ lv ≤ 64 := by omega
            have hw1 : wrap64 (lv0 - 2) = lv0 - 2 := IntWalk.wrap64_in _ (by omega)
            have hw2 : wrap64 (lv0 - 2 - (mp : Int)) = lv := by rw [hlv]; exact IntWalk.wrap64_in _ (by omega)
            have hlv' : lv0 - 2 - (mp : Int) = lv := hlv.symm
            clear hlv hfit
            go_upto_region 14 with fail
            try simp only [hw1, hw2, hlv']
            clear hlv' s1
            have HPw := hide HP4.out
            have HKw := hide HK4.out
            have HBw := hide HB4.out
            by_cases hl3 : lv < 3
            · go_upto_region 17 with fail
              obtain ⟨w5, hw5⟩ : ∃ Z, Z = ((w4.alloc (.cells #[.int .i64 xf, .int .i64 xn] 61)).alloc (.cells #[.bool true, .slice (some ⟨w4.heap.size, 0, none⟩) 1 1] 43)) := ⟨_, rfl⟩
              have K5 : Hid (Blk w5 (w4.heap.size + 1) 43 #[.bool true, .slice (some ⟨w4.heap.size, 0, none⟩) 1 1]) := hide (by
                rw [hw5]
                have := Blk.new (w4.alloc (.cells #[.int .i64 xf, .int .i64 xn] 61)) 43 #[.bool true, .slice (some ⟨w4.heap.size, 0, none⟩) 1 1]
                rwa [World.size_alloc] at this)
              have BA : Hid (Below w4.heap.size w4 w5) := hide (by rw [hw5]; exact ((Below.refl _ _).alloc (Nat.le_refl _) _).alloc (by simp) _)
              have I5 : Hid (ItAt w.heap.size w.heap.size w5 (some ⟨w4.heap.size, 0, none⟩) 1 [x]) := hide (by
                have h0 : Blk w5 w4.heap.size 61 #[.int .i64 xf, .int .i64 xn] := by rw [hw5]; exact (Blk.new _ _ _).alloc _
                rw [HXE.out]
                refine ⟨rfl, fun j u hu => ⟨w4.heap.size, 0, rfl, ⟨HBw.out.size, h0.lt, .inr ⟨_, h0⟩⟩, ?_⟩⟩
                rw [Nat.zero_add, h0.cell]
                simpa [b2C, b2] using hu)
              have P5 := hide (HPw.out.below BA.out)
              have KK5 := hide (HKw.out.trans (Kt.of_below BA.out))
              have BB5 := hide (HBw.out.trans (BA.out.mono HBw.out.size))
              rw [← hw5]
              clear hw5 z0 z1
              have y0 := K5.out.cell 0
              have y1 := K5.out.cell 1
              simp only [List.getElem?_toArray, List.getElem?_cons_succ, List.getElem?_cons_zero] at y0 y1
              go_upto_region 18 with (
                at_builtin
                obtain ⟨cs, e1, e2, e3, e4⟩ := P5.out
                have HH := hide (And.intro e1 e2)
                have E4 := hide (fun (k : Nat) (y : List Value) (g : RP) (hx : cs[k]? = some y) (hg : st.out[k]? = some g) => (e4 k y g hx hg).kt (T := []) (Kt.of_below ((Below.refl w5.heap.size w5).alloc (Nat.le_refl _) (.cells #[.bool true, .slice (some ⟨w4.heap.size, 0, none⟩) 1 1] 43))) (by simp))
                have E3 := hide (own_bel e3 ((Below.refl w5.heap.size w5).alloc (Nat.le_refl _) (.cells #[.bool true, .slice (some ⟨w4.heap.size, 0, none⟩) 1 1] 43)))
                clear e1 e2 e3 e4
                refine wpList_appK rfl (.tmp 87) (.tmp 89) _ rfl etyRp w.heap.size (.slice (some ⟨g, 0, none⟩) (q + 1) d) (q + 1) cs.flatten rfl E3.out (w5.heap.size + 1) (some ⟨w5.heap.size, 0, none⟩) 1 1 [.bool true, .slice (some ⟨w4.heap.size, 0, none⟩) 1 1] rfl (slc_new w5 [.bool true, .slice (some ⟨w4.heap.size, 0, none⟩) 1 1] _ rfl) (by intro u hu; simp only [List.mem_cons, List.not_mem_nil, or_false] at hu; rcases hu with rfl | rfl <;> rfl) (by omega) (Nat.le_trans BB5.out.size (by simp)) ?_
                intro A9 c9 w9 hown hg hnew
                have PU := hide (RpR.push (p := (true, [x])) HH.out.1 HH.out.2 E3.out E4.out (show RpC w.heap.size _ [.bool true, .slice (some ⟨w4.heap.size, 0, none⟩) 1 1] (true, [x]) from ⟨_, 1, rfl, RwAt.below I5.out ((Below.refl _ _).alloc (Nat.le_refl _) _)⟩) rfl hown hg)
                have KU := hide (KK5.out.trans ((Kt.of_below ((Below.refl w5.heap.size w5).alloc (Nat.le_refl _) (.cells #[.bool true, .slice (some ⟨w4.heap.size, 0, none⟩) 1 1] 43))).trans PU.out.2))
                clear hown hg hnew)
              have HSS : Hid (rstep size st x = ⟨st.out ++ [(true, [x])], size⟩) := hide (by rw [HST.out]; unfold begR; rw [decide_eq_true hl3, if_pos hl3])
              have BU := hide (B1'.out.trans (KU.out.below B1'.out.size))
              have hlen : Hid ((rstep size st x).out.length = (q + 1) + 1) := hide (by rw [HSS.out]; show (st.out ++ _).length = _; rw [List.length_append, ← HN.out]; rfl)
              clear y0 y1
              by_cases h64 : 64 < (q + 1) + 1
              · have h64' : (64 : Int) < (((q + 1) + 1 : Nat) : Int) := by omega
                go_wp2_with fail
                go_ret2
                rw [HRR.out, hRD.out, goR_stop (by rw [hlen.out]; exact h64)]
                exact ⟨BU.out, rfl⟩
              · have h64' : ¬ (64 : Int) < (((q + 1) + 1 : Nat) : Int) := by omega
                go_wp2_with fail
                go_roundw
                case rel =>
                  refine ⟨i + 1, rstep size st x, (q + 1) + 1, A9, c9, by omega, by go_num, by rw [HSS.out], hlen.out.symm, rfl, by rw [HSS.out]; exact PU.out.1, KU.out, by omega, ?_, by rw [HSS.out]; show _ ≤ size ∧ size ≤ 64; omega, by rw [HRR.out, hRD.out, goR_step (by rw [hlen.out]; exact h64)]⟩
                  rw [HSS.out]
                  intro z hz
                  rcases List.mem_append.1 hz with hz | hz
                  · have := HPS.out z hz; omega
                  · rw [List.mem_singleton.1 hz]; show 1 ≤ i + 1; omega
                case measure => simp [intOf]; omega
            · go_upto_region 17 with fail
              obtain ⟨w5, hw5⟩ : ∃ Z, Z = ((w4.alloc (.cells #[.int .i64 xf, .int .i64 xn] 61)).alloc (.cells #[.bool false, .slice (some ⟨w4.heap.size, 0, none⟩) 1 1] 43)) := ⟨_, rfl⟩
              have K5 : Hid (Blk w5 (w4.heap.size + 1) 43 #[.bool false, .slice (some ⟨w4.heap.size, 0, none⟩) 1 1]) := hide (by
                rw [hw5]
                have := Blk.new (w4.alloc (.cells #[.int .i64 xf, .int .i64 xn] 61)) 43 #[.bool false, .slice (some ⟨w4.heap.size, 0, none⟩) 1 1]
                rwa [World.size_alloc] at this)
              have BA : Hid (Below w4.heap.size w4 w5) := hide (by rw [hw5]; exact ((Below.refl _ _).alloc (Nat.le_refl _) _).alloc (by simp) _)
              have I5 : Hid (ItAt w.heap.size w.heap.size w5 (some ⟨w4.heap.size, 0, none⟩) 1 [x]) := hide (by
                have h0 : Blk w5 w4.heap.size 61 #[.int .i64 xf, .int .i64 xn] := by rw [hw5]; exact (Blk.new _ _ _).alloc _
                rw [HXE.out]
                refine ⟨rfl, fun j u hu => ⟨w4.heap.size, 0, rfl, ⟨HBw.out.size, h0.lt, .inr ⟨_, h0⟩⟩, ?_⟩⟩
                rw [Nat.zero_add, h0.cell]
                simpa [b2C, b2] using hu)
              have P5 := hide (HPw.out.below BA.out)
              have KK5 := hide (HKw.out.trans (Kt.of_below BA.out))
              have BB5 := hide (HBw.out.trans (BA.out.mono HBw.out.size))
              rw [← hw5]
              clear hw5 z0 z1
              have y0 := K5.out.cell 0
              have y1 := K5.out.cell 1
              simp only [List.getElem?_toArray, List.getElem?_cons_succ, List.getElem?_cons_zero] at y0 y1
              go_upto_region 18 with (
                at_builtin
                obtain ⟨cs, e1, e2, e3, e4⟩ := P5.out
                have HH := hide (And.intro e1 e2)
                have E4 := hide (fun (k : Nat) (y : List Value) (g : RP) (hx : cs[k]? = some y) (hg : st.out[k]? = some g) => (e4 k y g hx hg).kt (T := []) (Kt.of_below ((Below.refl w5.heap.size w5).alloc (Nat.le_refl _) (.cells #[.bool false, .slice (some ⟨w4.heap.size, 0, none⟩) 1 1] 43))) (by simp))
                have E3 := hide (own_bel e3 ((Below.refl w5.heap.size w5).alloc (Nat.le_refl _) (.cells #[.bool false, .slice (some ⟨w4.heap.size, 0, none⟩) 1 1] 43)))
                clear e1 e2 e3 e4
                refine wpList_appK rfl (.tmp 87) (.tmp 89) _ rfl etyRp w.heap.size (.slice (some ⟨g, 0, none⟩) (q + 1) d) (q + 1) cs.flatten rfl E3.out (w5.heap.size + 1) (some ⟨w5.heap.size, 0, none⟩) 1 1 [.bool false, .slice (some ⟨w4.heap.size, 0, none⟩) 1 1] rfl (slc_new w5 [.bool false, .slice (some ⟨w4.heap.size, 0, none⟩) 1 1] _ rfl) (by intro u hu; simp only [List.mem_cons, List.not_mem_nil, or_false] at hu; rcases hu with rfl | rfl <;> rfl) (by omega) (Nat.le_trans BB5.out.size (by simp)) ?_
                intro A9 c9 w9 hown hg hnew
                have PU := hide (RpR.push (p := (false, [x])) HH.out.1 HH.out.2 E3.out E4.out (show RpC w.heap.size _ [.bool false, .slice (some ⟨w4.heap.size, 0, none⟩) 1 1] (false, [x]) from ⟨_, 1, rfl, RwAt.below I5.out ((Below.refl _ _).alloc (Nat.le_refl _) _)⟩) rfl hown hg)
                have KU := hide (KK5.out.trans ((Kt.of_below ((Below.refl w5.heap.size w5).alloc (Nat.le_refl _) (.cells #[.bool false, .slice (some ⟨w4.heap.size, 0, none⟩) 1 1] 43))).trans PU.out.2))
                clear hown hg hnew)
              have HSS : Hid (rstep size st x = ⟨st.out ++ [(false, [x])], lv⟩) := hide (by rw [HST.out]; unfold begR; rw [decide_eq_false hl3, if_neg hl3])
              have BU := hide (B1'.out.trans (KU.out.below B1'.out.size))
              have hlen : Hid ((rstep size st x).out.length = (q + 1) + 1) := hide (by rw [HSS.out]; show (st.out ++ _).length = _; rw [List.length_append, ← HN.out]; rfl)
              clear y0 y1
              by_cases h64 : 64 < (q + 1) + 1
              · have h64' : (64 : Int) < (((q + 1) + 1 : Nat) : Int) := by omega
                go_wp2_with fail
                go_ret2
                rw [HRR.out, hRD.out, goR_stop (by rw [hlen.out]; exact h64)]
                exact ⟨BU.out, rfl⟩
              · have h64' : ¬ (64 : Int) < (((q + 1) + 1 : Nat) : Int) := by omega
                go_wp2_with fail
                go_roundw
                case rel =>
                  refine ⟨i + 1, rstep size st x, (q + 1) + 1, A9, c9, by omega, by go_num, by rw [HSS.out], hlen.out.symm, rfl, by rw [HSS.out]; exact PU.out.1, KU.out, by omega, ?_, by rw [HSS.out]; show _ ≤ lv ∧ lv ≤ 64; omega, by rw [HRR.out, hRD.out, goR_step (by rw [hlen.out]; exact h64)]⟩
                  rw [HSS.out]
                  intro z hz
                  rcases List.mem_append.1 hz with hz | hz
                  · have := HPS.out z hz; omega
                  · rw [List.mem_singleton.1 hz]; show 1 ≤ i + 1; omega
                case measure => simp [intOf]; omega
    · have hiN' : i = N := by omega
      have hR' : R = some st := by rw [HRR.out, hiN', ← HIL.out, List.drop_length]; rfl
      have HR' := hide hR'
      clear hiN' hR'
      go_wp2_with fail
      go_ret2
      rw [HR'.out]
      exact ⟨HBW.out, B, d, by rw [← HN.out]; rfl, by rw [← HN.out]; exact HP.out⟩
theorem rplan_bad (A A' : Option Addr) (m c m' c' : Nat) (left size : Int) (w : World) (hg : badP left size) :
    Calls Try.prog 11 #[.slice A m c, .slice A' m' c', .int .i64 left, .int .i64 size] w fun e w' => e = .returned (.tuple #[.slice none 0 0, .int .i64 22]) ∧ Below w.heap.size w w' := by
  unfold badP at hg
  by_cases h1 : size < 8
  · go_enter Try.func11, Try.ntmps11
    go_wp2_with fail
    go_ret2
    exact ⟨rfl, Below.refl _ _⟩
  · by_cases h2 : 64 < size
    · go_enter Try.func11, Try.ntmps11
      go_wp2_with fail
      go_ret2
      exact ⟨rfl, Below.refl _ _⟩
    · by_cases h3 : left < 0
      · go_enter Try.func11, Try.ntmps11
        go_wp2_with fail
        go_ret2
        exact ⟨rfl, Below.refl _ _⟩
      · have h4 : size < left := by omega
        clear hg
        go_enter Try.func11, Try.ntmps11
        go_wp2_with fail
        go_ret2
        exact ⟨rfl, Below.refl _ _⟩
end Go.Proofs.Ytopjkpopdffkeaa
