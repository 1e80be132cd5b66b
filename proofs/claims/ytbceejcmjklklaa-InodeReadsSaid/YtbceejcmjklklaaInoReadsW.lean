/- The walk over marllaw05.InodeReads (printed by gen_inoreads.py). -/
import Derived.Test.YtbceejcmjklklaaInoRDecW
import Derived.Test.YtbceejcmjklklaaInoLits
namespace Go.Proofs.Ytbceejcmjklklaa
open Go.RowKit
attribute [local go_sem ↓] Go.wp_at_zero Go.wp_at_succ

theorem own_by64c {w : World} {base c : Nat} {A : Option Addr} {l : List UInt8} (h : OwnBy w base A 64 c l) : By w w.heap.size A 64 l := h.by
/-- What both Decodes answer. -/
def Both (l : List UInt8) (N : Value) (code : Int) : Prop :=
  (∀ (A : Option Addr) (n c B : Nat) (w : World), By w B A n l → B ≤ w.heap.size → n ≤ c → Calls Try.prog 19 #[.slice A n c] w fun e w' => e = .returned (.tuple #[N, .int .i64 code]) ∧ Below w.heap.size w w') ∧
  (∀ (A : Option Addr) (n c B : Nat) (w : World), By w B A n l → B ≤ w.heap.size → n ≤ c → Calls Try.prog 21 #[.slice A n c] w fun e w' => e = .returned (.tuple #[N, .int .i64 code]) ∧ Below w.heap.size w w')
theorem both_len {l : List UInt8} (h : l.length ≠ 64) : Both l zeroI 100 :=
  ⟨fun A n c B w hb _ _ => dec_len A n c w (by rw [← hb.length]; exact h), fun A n c B w hb _ _ => rdec_len A n c w (by rw [← hb.length]; exact h)⟩
theorem both_sum {l : List UInt8} (h : l.length = 64) (hbad : sealed (l.take 60) ≠ l) : Both l zeroI 101 :=
  ⟨fun A n c B w hb hB hc => by
    obtain rfl : n = 64 := by rw [← hb.length]; exact h
    exact dec_sum A c B l w hb hB hc hbad, fun A n c B w hb hB hc => by
    obtain rfl : n = 64 := by rw [← hb.length]; exact h
    exact rdec_sum A c B l w hb hB hc hbad⟩
theorem both_open {l : List UInt8} (h : l.length = 64) (hgood : sealed (l.take 60) = l) {N : Value} {code : Int} (hd : ∀ x, DecV l x → x = .tuple #[N, .int .i64 code]) : Both l N code :=
  ⟨fun A n c B w hb hB hc => by
    obtain rfl : n = 64 := by rw [← hb.length]; exact h
    refine (dec_open A c B l w hb hB hc hgood).mono ?_
    rintro e w' ⟨x, rfl, hx, hw⟩
    exact ⟨by rw [hd x hx], hw⟩, fun A n c B w hb hB hc => by
    obtain rfl : n = 64 := by rw [← hb.length]; exact h
    refine (rdec_open A c B l w hb hB hc hgood).mono ?_
    rintro e w' ⟨x, rfl, hx, hw⟩
    exact ⟨by rw [hd x hx], hw⟩⟩
set_option maxHeartbeats 1000000 in
theorem reads_big (A : Option Addr) (n c : Nat) (w : World) (hbig : 1000 < n) :
    Calls Try.prog 8 #[.slice A n c] w fun e w' => e = .returned (.bool true) ∧ Below w.heap.size w w' := by
  go_enter Try.func8, Try.ntmps8
  go_wp2_with fail
  refine (awake_any _).mono ?_
  rintro e w1 ⟨rfl, hb1⟩
  go_wp2_with fail
  refine (awake_any _).mono ?_
  rintro e w2 ⟨rfl, hb2⟩
  go_wp2_with fail
  go_ret
  exact ⟨rfl, hb1.trans (hb2.mono hb1.size)⟩
set_option maxRecDepth 100000 in
set_option maxHeartbeats 4000000 in
theorem reads_any (A : Option Addr) (m c : Nat) (l : List UInt8) (w : World) (h : By w w.heap.size A m l) (hsm : m ≤ 1000) (hc : m ≤ c) (a v k n s : Int) (p0 p1 p2 p3 p4 p5 p6 p7 p8 : Nat) (code : Int) (hb : Both l (inoV a v k n s p0 p1 p2 p3 p4 p5 p6 p7 p8) code)
    (heq : ∀ w, (Op.equalIn 10000 28 (inoV a v k n s p0 p1 p2 p3 p4 p5 p6 p7 p8) (inoV a v k n s p0 p1 p2 p3 p4 p5 p6 p7 p8)).run Try.prog w = .ok true w)
    (henc : code ≠ 0 ∨ (code = 0 ∧ ∀ w, Calls Try.prog 13 #[inoV a v k n s p0 p1 p2 p3 p4 p5 p6 p7 p8] w fun e w' => ∃ A c, e = .returned (.tuple #[.slice A 64 c, .int .i64 0]) ∧ OwnBy w' w.heap.size A 64 c l ∧ Below w.heap.size w w')) :
    Calls Try.prog 8 #[.slice A m c] w fun e w' => e = .returned (.bool true) ∧ Below w.heap.size w w' := by
  have H := hide h
  have HB := hide hb
  have HE := hide henc
  have HQ := hide heq
  have hcc : (code == code) = true := beq_self_eq_true _
  clear h hb henc heq
  go_enter Try.func8, Try.ntmps8
  go_wp2_with fail
  refine (awake_any _).mono ?_
  rintro e w1 ⟨rfl, hb1⟩
  have B1 := hide hb1
  clear hb1
  go_wp2_with (
    at_builtin
    refine wpList_app _ rfl (.tmp 18) (.tmp 19) _ rfl ety8 w.heap.size (.slice (some ⟨w1.heap.size, 0, none⟩) 0 0) 0 [] rfl (empty_own B1.out.size) w.heap.size A m c (u8s l) rfl
      ((H.out.below B1.out).alloc B1.out.size _) (u8s_one l) (by omega) (Nat.le_trans B1.out.size (by simp)) ?_
    intro A2 c2 w2 hown2 hg2 _
    simp only [Nat.zero_add, List.nil_append] at hown2
    have O2 := hide (show OwnBy w2 w.heap.size A2 m c2 l from hown2)
    have B2 := hide ((B1.out.alloc B1.out.size (.cells #[] 5)).grown hg2 (Nat.le_trans B1.out.size (by simp)) (fun k hk => by
      have hk' : w1.heap.size = k := by simpa [Value.ownBlock] using hk
      have := B1.out.size
      omega))
    clear hown2 hg2)
  have hcap2 := own_cap O2.out
  refine (HB.out.1 A2 m c2 w2.heap.size w2 O2.out.by (Nat.le_refl _) hcap2).mono ?_
  rintro e w3 ⟨rfl, hb3⟩
  have O3 := hide (own_keep O2.out hb3)
  have B3 := hide (B2.out.trans (hb3.mono B2.out.size))
  clear hb3 O2
  unfold inoV at HQ HE ⊢
  go_wp2_with fail
  have K4 := hide (Blk.new w3 28 #[.int .i64 a, .int .i64 v, .int .i64 k, .int .i64 n, .int .i64 s, .int .u32 (p0 : Int), .int .u32 (p1 : Int), .int .u32 (p2 : Int), .int .u32 (p3 : Int), .int .u32 (p4 : Int), .int .u32 (p5 : Int), .int .u32 (p6 : Int), .int .u32 (p7 : Int), .int .u32 (p8 : Int)])
  have hal := (Below.refl w3.heap.size w3).alloc (Nat.le_refl _) (.cells #[.int .i64 a, .int .i64 v, .int .i64 k, .int .i64 n, .int .i64 s, .int .u32 (p0 : Int), .int .u32 (p1 : Int), .int .u32 (p2 : Int), .int .u32 (p3 : Int), .int .u32 (p4 : Int), .int .u32 (p5 : Int), .int .u32 (p6 : Int), .int .u32 (p7 : Int), .int .u32 (p8 : Int)] 28)
  have B4 := hide (B3.out.trans (hal.mono B3.out.size))
  have O4 := hide (own_keep O3.out hal)
  clear hal O3 B3
  generalize hg4 : w3.heap.size = g4 at K4 ⊢
  generalize w3.alloc _ = w4 at *
  clear hg4
  refine (HB.out.2 A m c w.heap.size w4 (H.out.below B4.out) B4.out.size hc).mono ?_
  rintro e w5 ⟨rfl, hb5⟩
  unfold inoV
  have hal := (Below.refl w5.heap.size w5).alloc (Nat.le_refl _) (.cells #[.int .i64 a, .int .i64 v, .int .i64 k, .int .i64 n, .int .i64 s, .int .u32 (p0 : Int), .int .u32 (p1 : Int), .int .u32 (p2 : Int), .int .u32 (p3 : Int), .int .u32 (p4 : Int), .int .u32 (p5 : Int), .int .u32 (p6 : Int), .int .u32 (p7 : Int), .int .u32 (p8 : Int)] 28)
  have hb6 := hb5.trans (hal.mono hb5.size)
  have K6 := hide (Blk.new w5 28 #[.int .i64 a, .int .i64 v, .int .i64 k, .int .i64 n, .int .i64 s, .int .u32 (p0 : Int), .int .u32 (p1 : Int), .int .u32 (p2 : Int), .int .u32 (p3 : Int), .int .u32 (p4 : Int), .int .u32 (p5 : Int), .int .u32 (p6 : Int), .int .u32 (p7 : Int), .int .u32 (p8 : Int)])
  have K4b := hide (K4.out.below hb6)
  have O6 := hide (own_keep O4.out hb6)
  have B6 := hide (B4.out.trans (hb6.mono B4.out.size))
  have H6 := hide (H.out.below (B4.out.trans (hb6.mono B4.out.size)))
  clear hal hb5 hb6 K4 O4 B4
  have e1 := run_conv_txt (P := Try.prog) (w5.alloc (.cells #[.int .i64 a, .int .i64 v, .int .i64 k, .int .i64 n, .int .i64 s, .int .u32 (p0 : Int), .int .u32 (p1 : Int), .int .u32 (p2 : Int), .int .u32 (p3 : Int), .int .u32 (p4 : Int), .int .u32 (p5 : Int), .int .u32 (p6 : Int), .int .u32 (p7 : Int), .int .u32 (p8 : Int)] 28)) Try.underlying29 Try.underlying5 Try.underlying9 c2 (OwnBy.by O6.out)
  have e2 := run_conv_txt (P := Try.prog) (w5.alloc (.cells #[.int .i64 a, .int .i64 v, .int .i64 k, .int .i64 n, .int .i64 s, .int .u32 (p0 : Int), .int .u32 (p1 : Int), .int .u32 (p2 : Int), .int .u32 (p3 : Int), .int .u32 (p4 : Int), .int .u32 (p5 : Int), .int .u32 (p6 : Int), .int .u32 (p7 : Int), .int .u32 (p8 : Int)] 28)) Try.underlying29 Try.underlying5 Try.underlying9 c H6.out
  have heq := HQ.out
  obtain ⟨c0', c1', c2', c3', c4', c5', c6', c7', c8', c9', c10', c11', c12', c13'⟩ := blk14 K4b.out
  obtain ⟨d0, d1, d2, d3, d4, d5, d6, d7, d8, d9, d10, d11, d12, d13⟩ := blk14 K6.out
  rcases HE.out with hc0 | ⟨hc0, henc⟩
  · have hcn : (code == 0) = false := by rw [beq_eq_false_iff_ne]; exact hc0
    clear hc0
    go_wp2_with fail
    go_ret
    exact ⟨rfl, B6.out⟩
  · subst hc0
    have HEN := hide henc
    clear henc
    go_wp2_with fail
    refine (HEN.out _).mono ?_
    rintro e w7 ⟨A7, c7, rfl, ho7, hb7⟩
    have e3 := run_conv_txt (P := Try.prog) w7 Try.underlying29 Try.underlying5 Try.underlying9 c7 (own_by64c ho7)
    have e4 := run_conv_txt (P := Try.prog) w7 Try.underlying29 Try.underlying5 Try.underlying9 c (H6.out.below (hb7.mono B6.out.size))
    have B7 := hide (B6.out.trans (hb7.mono B6.out.size))
    clear ho7 hb7
    go_wp2_with fail
    go_ret
    exact ⟨rfl, B7.out⟩
theorem reads_all (A : Option Addr) (m c : Nat) (l : List UInt8) (w : World) (h : By w w.heap.size A m l) (hc : m ≤ c) :
    Calls Try.prog 8 #[.slice A m c] w fun e w' => e = .returned (.bool true) ∧ Below w.heap.size w w' := by
  by_cases hm : 1000 < m
  · exact reads_big A m c w hm
  · have hz : ∀ code, code ≠ 0 → Both l zeroI code → Calls Try.prog 8 #[.slice A m c] w fun e w' => e = .returned (.bool true) ∧ Below w.heap.size w w' := fun code h0 hb =>
      reads_any A m c l w h (by omega) hc 0 0 0 0 0 0 0 0 0 0 0 0 0 0 code hb (fun w => zero_same w) (.inl h0)
    by_cases h64 : l.length = 64
    · by_cases hg : sealed (l.take 60) = l
      · by_cases hi : IsIno l
        · refine reads_any A m c l w h (by omega) hc _ _ _ _ _ _ _ _ _ _ _ _ _ _ 0 (both_open h64 hg (N := inoV (fld l 0 2) (fld l 2 2) (fld l 4 1) (fld l 5 1) (fld l 6 4) (fld l 10 4) (fld l 14 4) (fld l 18 4) (fld l 22 4) (fld l 26 4) (fld l 30 4) (fld l 34 4) (fld l 38 4) (fld l 42 4)) (fun x hd => ?_)) (ino_same _ _ _ _ _ _ _ _ _ _ _ _ _ _ hi.1 (fld_lt _ _ 4) (fld_lt _ _ 4) (fld_lt _ _ 4) (fld_lt _ _ 4) (fld_lt _ _ 4) (fld_lt _ _ 4) (fld_lt _ _ 4) (fld_lt _ _ 4) (fld_lt _ _ 4)) (.inr ⟨rfl, fun w => ?_⟩)
          · rcases hd with hd | hd
            · exact hd.2
            · exact absurd hi hd.1
          · have := enc_yes (fld l 0 2) (fld l 2 2) (fld l 4 1) (fld l 5 1) (fld l 6 4) (fld l 10 4) (fld l 14 4) (fld l 18 4) (fld l 22 4) (fld l 26 4) (fld l 30 4) (fld l 34 4) (fld l 38 4) (fld l 42 4) w hi.1 (fld_lt _ _ 4) (fld_lt _ _ 4) (fld_lt _ _ 4) (fld_lt _ _ 4) (fld_lt _ _ 4) (fld_lt _ _ 4) (fld_lt _ _ 4) (fld_lt _ _ 4) (fld_lt _ _ 4)
            rw [hi.2] at this
            exact this
        · refine hz 100 (by decide) (both_open h64 hg (fun x hd => ?_))
          rcases hd with hd | hd
          · exact absurd hd.1 hi
          · exact hd.2
      · exact hz 101 (by decide) (both_sum h64 hg)
    · exact hz 100 (by decide) (both_len h64)
end Go.Proofs.Ytbceejcmjklklaa
