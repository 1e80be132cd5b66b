/- The walk of marllaw01.SumSeals. -/
import Derived.Test.YtdohcpoaggclaaaAwake
import Derived.Test.YtdohcpoaggclaaaOpenW
import Derived.Test.YtdohcpoaggclaaaRefOpenW
import Derived.Deep.DeepCutAuto
namespace Go.Proofs.Ytdohcpoaggclaaa
open Go.RowKit

theorem bel_own2 {w w1 w2 : World} {base : Nat} {n c : Nat} (hb1 : Below base w w1) (hB : base ≤ w1.heap.size) (o : Obj)
    (hg : (w1.alloc o).grownBy w2 ((Value.slice (some ⟨w1.heap.size, 0, none⟩) n c).ownBlock)) : Below base w w2 :=
  (hb1.alloc hB o).grown hg (Nat.le_trans hB (by simp)) (fun k hk => by
    have hk' : w1.heap.size = k := by simpa [Value.ownBlock] using hk
    omega)
theorem own_room {w : World} {base n c : Nat} {e : TypeId} {A : Option Addr} {xs : List Value} (h : w.ownsRow base e 1 (.slice A n c) n xs) : n ≤ c := by
  obtain ⟨A', c', e, h1, _⟩ := own_form h
  injection e with e1 e2 e3
  omega
theorem sealed_length (l : List UInt8) : (sealed l).length = l.length + 4 := by simp [sealed, four_length]
theorem sealed_take (l : List UInt8) : (sealed l).take l.length = l := by unfold sealed; rw [List.take_left' rfl]

/-- A place of an own row of bytes, ready to be made one greater. -/
theorem inc_at {w : World} {base n c k : Nat} {A : Option Addr} {l : List UInt8} (h : OwnBy w base A n c l) (hk : k < n) :
    ∃ x : Nat, x < 256 ∧ ∃ ad, A = some ad ∧ base ≤ ad.block ∧ w.cell? (ad.add k) = some (.int .u8 (x : Int)) ∧ w.frozen? (ad.add k) = false ∧
      OwnBy (w.setCell (ad.add k) (.int .u8 (((x : Int) + 1) % 256))) base A n c (l.set k (UInt8.ofNat (x + 1))) := by
  obtain ⟨ad, u, rfl, hb1, hb2, hu, hcell, hfz, hset⟩ := own_at h hk
  have hkl : k < l.length := by have := h.by.length; omega
  rw [u8s_get, List.getElem?_eq_getElem hkl] at hu
  simp only [Option.map_some, Option.some.injEq] at hu
  subst hu
  refine ⟨l[k].toNat, l[k].toNat_lt, ad, rfl, hb1, hcell, hfz, ?_⟩
  have h9 := hset (.int .u8 (((l[k].toNat : Int) + 1) % 256))
  have e : u8s (l.set k (UInt8.ofNat (l[k].toNat + 1))) = (u8s l).set k (.int .u8 (((l[k].toNat : Int) + 1) % 256)) := by
    unfold u8s
    rw [List.map_set, UInt8.toNat_ofNat']
    congr 2
  rw [OwnBy, e]
  exact h9

theorem sumSeals_big (A : Option Addr) (n cap : Nat) (w : World) (hbig : 5000 < n) :
    Calls Try.prog 9 #[.slice A n cap] w fun e w' => e = .returned (.bool true) ∧ Below w.heap.size w w' := by
  go_enter Try.func9, Try.ntmps9
  go_wp2_with fail
  refine (awake_any _).mono ?_
  rintro e w1 ⟨rfl, hb1⟩
  go_wp2_with fail
  refine (awake_any _).mono ?_
  rintro e w2 ⟨rfl, hb2⟩
  go_wp2_with fail
  go_ret
  exact ⟨rfl, hb1.trans (hb2.mono hb1.size)⟩

set_option maxHeartbeats 4000000 in
theorem sumSeals_small (A : Option Addr) (n cap : Nat) (l : List UInt8) (w : World) (h : By w w.heap.size A n l) (hs : n ≤ 5000) :
    Calls Try.prog 9 #[.slice A n cap] w fun e w' => e = .returned (.bool true) ∧ Below w.heap.size w w' := by
  have H := hide h
  have Hl := hide h.length
  clear h
  have hmk : ∀ W, (Instr.makeSlice 22 (.int .i64 0) (.int .i64 ((n : Int) + 20))).run Try.prog W = .ok (.slice (some ⟨W.heap.size, 0, none⟩) 0 (n + 20)) (W.alloc (.cells (zs (.int .u8 0) (n + 20)) 5)) := fun W => by
    have := run_mk (P := Try.prog) ety8 rfl .i64 .i64 0 (n + 20) (by omega) (by omega) W
    rw [show (((n + 20 : Nat)) : Int) = (n : Int) + 20 by omega] at this
    exact this
  go_enter Try.func9, Try.ntmps9
  go_wp2_with fail
  refine (awake_any _).mono ?_
  rintro e w1 ⟨rfl, hb1⟩
  have H1 := hide (Sl.below H.out hb1)
  go_wp2_with (
    at_builtin
    refine wpList_app _ rfl (.tmp 20) (.tmp 21) _ rfl ety8 w.heap.size (.slice (some ⟨w1.heap.size, 0, none⟩) 0 (n + 20)) 0 [] rfl (own_mk (n := 0) hb1.size (by omega) (by omega)) w.heap.size A n cap (u8s l) rfl
      (H1.out.alloc hb1.size _) (u8s_one l) (by omega) (Nat.le_trans hb1.size (by simp)) ?_
    intro A2 c2 w2 hown2 hg2 _
    simp only [Nat.zero_add, List.nil_append] at hown2
    have Hb2 := hide (bel_own2 hb1 hb1.size _ hg2)
    have Hown2 := hide hown2
    clear hg2 hown2)
  clear hmk
  refine (seal_any _ _ _ _ l _ (Sl.of_own Hown2.out) (Nat.le_refl _) (by omega)).mono ?_
  rintro e w3 ⟨A3, c3, rfl, hown3, hb3⟩
  have Hown3 := hide hown3
  have Hb23 := hide hb3
  have Hb3 := hide (Hb2.out.trans (hb3.mono Hb2.out.size))
  clear hown3 hb3 hb1 H1
  go_upto_region 5 with fail
  go_cut [30] (fun s wx => s = .bool false ∧ Below w3.heap.size w3 wx)
  case first =>
    have e0 := run_conv_txt (P := Try.prog) w3.drew Try.underlying22 Try.underlying5 Try.underlying9 c3 Hown3.out.by.drew
    go_region_with ((go_at_call 20; refine (rseal_any _ _ _ w.heap.size l _ (Sl.below H.out Hb3.out).drew Hb3.out.size (by omega)).mono ?_; rintro e w4 ⟨A4, c4, rfl, hown4, hb4⟩; have Hown4 := hide hown4; clear hown4; have e1 := run_conv_txt (P := Try.prog) w4 Try.underlying22 Try.underlying5 Try.underlying9 c4 Hown4.out.by; have e2 := run_conv_txt (P := Try.prog) w4 Try.underlying22 Try.underlying5 Try.underlying9 c3 (Sl.below Hown3.out.by.drew hb4)))
    all_goals (go_wp2_with fail; go_meet; exact ⟨by simp, (Below.refl _ _).drew.trans hb4⟩)
  case rest =>
    obtain ⟨rfl, hb4⟩ := hcut
    have Hb4 := hide (Hb3.out.trans (hb4.mono Hb3.out.size))
    have Hb34 := hide hb4
    clear hb4
    generalize wc = w4 at *
    have Hby4 := hide (Sl.below Hown3.out.by Hb34.out)
    obtain ⟨_, ad3, rfl, _⟩ := By.get Hby4.out (show 0 < n + 4 by omega)
    have htk := hide (show (sealed l).take n = l by have := sealed_take l; rwa [Hl.out] at this)
    have C := open_good ad3 n c3 _ (sealed l) w4 Hby4.out Hb34.out.size (own_room Hown3.out) (by omega) (by rw [htk.out])
    rw [htk.out] at C
    have HC := hide C
    clear C
    go_wp2_with fail
    refine (show Calls _ _ _ _ _ from HC.out).mono ?_
    rintro e w5 ⟨A5, c5, rfl, hown5, hb5⟩
    have Hown5 := hide hown5
    have Hb45 := hide hb5
    have Hb5 := hide (Hb4.out.trans (hb5.mono Hb4.out.size))
    clear hown5 hb5 HC
    have e1 := run_conv_txt (P := Try.prog) w5 Try.underlying22 Try.underlying5 Try.underlying9 c5 Hown5.out.by
    have e2 := run_conv_txt (P := Try.prog) w5 Try.underlying22 Try.underlying5 Try.underlying9 cap (Sl.below H.out Hb5.out)
    go_wp2_with (
      at_builtin
      refine wpList_app _ rfl (.tmp 45) (.tmp 46) _ rfl ety8 w4.heap.size (.slice A5 n c5) n (u8s l) rfl (Hown5.out.alloc _) (w5.heap.size + 1) (some ⟨w5.heap.size, 0, none⟩) 2 2 (u8s [1, 2]) rfl
        ?_ (u8s_one _) (by omega) (by have := Hb45.out.size; simp; omega) ?_
      · have := (own_bytes (w := w5) (base := 0) (n := 2) (l := [1, 2]) #[.int .u8 1, .int .u8 2] rfl (Nat.zero_le _) rfl (by omega)).by
        simpa using this
      intro A6 c6 w6 hown6 hg6 _
      rw [← u8s_append] at hown6
      have Hown6 := hide hown6
      have Hb46 := hide ((Hb45.out.alloc Hb45.out.size _).grown hg6 (by have := Hb45.out.size; simp; omega) (fun k hk => (Hown5.out.lt k hk).1))
      clear hown6 hg6)
    clear e1 e2
    go_loopw [50] (fun i wr => ∃ k : Nat, k ≤ n + 2 ∧ i = .int .i64 k ∧ (∃ l', OwnBy wr w4.heap.size A6 (n + 2) c6 l') ∧ Below w4.heap.size w4 wr) (fun i _ => n + 2 - (intOf i).toNat)
    case atStart => exact ⟨0, by omega, rfl, ⟨_, Hown6.out⟩, Hb46.out⟩
    case round =>
      obtain ⟨k, hk, rfl, ⟨l', hown7⟩, hb7⟩ := hrel
      have Hown7 := hide hown7
      have Hb7 := hide hb7
      clear hown7 hb7
      by_cases hlt : k < n + 2
      · obtain ⟨x, hx, ad, rfl, hbase, hcell, hfz, hset⟩ := inc_at Hown7.out hlt
        have Hset := hide hset
        clear hset
        go_wp2
        go_roundw
        case rel => exact ⟨k + 1, by omega, by go_num, ⟨_, Hset.out⟩, bel_set Hb7.out hbase _ _⟩
        case measure => simp [intOf]; omega
      · go_upto_region 16 with fail
        have Hb8 := hide (Hb4.out.trans (Hb7.out.mono Hb4.out.size))
        have Hs8 := hide (Sl.below Hby4.out (Hb7.out.mono Hb34.out.size))
        go_cut [65] (fun s wx => s = .bool false ∧ Below wr.heap.size wr wx)
        case first =>
          have e0 := run_conv_txt (P := Try.prog) wr.drew Try.underlying22 Try.underlying5 Try.underlying9 c3 Hs8.out.drew
          go_region_with ((go_at_call 20; refine (rseal_any _ _ _ w.heap.size l _ (Sl.below H.out Hb8.out).drew Hb8.out.size (by omega)).mono ?_; rintro e w9 ⟨A9, c9, rfl, hown9, hb9⟩; have Hown9 := hide hown9; clear hown9; have e1 := run_conv_txt (P := Try.prog) w9 Try.underlying22 Try.underlying5 Try.underlying9 c9 Hown9.out.by; have e2 := run_conv_txt (P := Try.prog) w9 Try.underlying22 Try.underlying5 Try.underlying9 c3 (Sl.below Hs8.out.drew (hb9.mono (Nat.le_trans Hb34.out.size Hb7.out.size)))))
          all_goals (go_wp2_with fail; go_meet; exact ⟨by simp, (Below.refl _ _).drew.trans hb9⟩)
        case rest =>
          obtain ⟨rfl, hb9⟩ := hcut
          have Hb3c := hide (Hb34.out.trans ((Hb7.out.mono Hb34.out.size).trans (hb9.mono (Nat.le_trans Hb34.out.size Hb7.out.size))))
          have Hbc := hide (Hb8.out.trans (hb9.mono Hb8.out.size))
          have Hb2c := hide (Hb23.out.trans (Hb3c.out.mono Hb23.out.size))
          have Hown10 := hide (own_below Hown3.out Hb3c.out (own_lt Hown3.out))
          clear hb9 Hb7 Hown7 Hs8 Hb8
          clear hlt hk
          go_wp2
          go_loopw [68] (fun i wr => ∃ k : Nat, k ≤ n + 4 ∧ i = .int .i64 k ∧ (∃ l', OwnBy wr w2.heap.size (some ad3) (n + 4) c3 l') ∧ Below w2.heap.size w2 wr) (fun i _ => n + 4 - (intOf i).toNat)
          case atStart => exact ⟨0, by omega, rfl, ⟨_, Hown10.out⟩, Hb2c.out⟩
          case round =>
            obtain ⟨k, hk, rfl, ⟨l', hown7⟩, hb7⟩ := hrel
            have Hown7 := hide hown7
            have Hb7 := hide hb7
            clear hown7 hb7
            by_cases hlt : k < n + 4
            · obtain ⟨x, hx, ad, had, hbase, hcell, hfz, hset⟩ := inc_at Hown7.out hlt
              injection had with had
              subst had
              have Hset := hide hset
              clear hset
              go_wp2
              go_roundw
              case rel => exact ⟨k + 1, by omega, by go_num, ⟨_, Hset.out⟩, bel_set Hb7.out hbase _ _⟩
              case measure => simp [intOf]; omega
            · have hbf := Hb2.out.trans (Hb7.out.mono Hb2.out.size)
              have e1 := run_conv_txt (P := Try.prog) wr Try.underlying22 Try.underlying5 Try.underlying9 c2 (Sl.below (Sl.of_own Hown2.out) Hb7.out)
              have e2 := run_conv_txt (P := Try.prog) wr Try.underlying22 Try.underlying5 Try.underlying9 cap (Sl.below H.out hbf)
              go_wp2
              go_ret
              exact ⟨by simp, hbf⟩

theorem sumSeals_all (A : Option Addr) (n cap : Nat) (l : List UInt8) (w : World) (h : By w w.heap.size A n l) :
    Calls Try.prog 9 #[.slice A n cap] w fun e w' => e = .returned (.bool true) ∧ Below w.heap.size w w' := by
  by_cases hs : n ≤ 5000
  · exact sumSeals_small A n cap l w h hs
  · exact sumSeals_big A n cap w (by omega)
end Go.Proofs.Ytdohcpoaggclaaa
