/- The walk of marllaw05.InodeSealed. -/
import Derived.Test.YtbceejcmjklklaaInoAwakeW
import Derived.Test.YtbceejcmjklklaaInoLits
import Derived.Test.YtbceejcmjklklaaOpenW
import Derived.Test.YtbceejcmjklklaaInoS
import Derived.Test.YtbceejcmjklklaaCrc
namespace Go.Proofs.Ytbceejcmjklklaa
open Go.RowKit

/-- The answer that there is no inode. -/
abbrev zeroI : Value := .agg #[.int .i64 0, .int .i64 0, .int .i64 0, .int .i64 0, .int .i64 0, .int .u32 0, .int .u32 0, .int .u32 0, .int .u32 0, .int .u32 0, .int .u32 0, .int .u32 0, .int .u32 0, .int .u32 0]
theorem zero_same (w : World) : (Op.equalIn 10000 28 zeroI zeroI).run Try.prog w = .ok true w :=
  eql_yes (D := 10) (ls := [.int .i64 0, .int .i64 0, .int .i64 0, .int .i64 0, .int .i64 0, .int .u32 0, .int .u32 0, .int .u32 0, .int .u32 0, .int .u32 0, .int .u32 0, .int .u32 0, .int .u32 0, .int .u32 0]) ino_key (by kernel_rfl) (by kernel_rfl) (by kernel_rfl) (by kernel_rfl) w

set_option maxRecDepth 100000 in
set_option maxHeartbeats 1000000 in
theorem dec_sum (A : Option Addr) (c B : Nat) (l : List UInt8) (w : World) (h : By w B A 64 l) (hB : B ≤ w.heap.size) (hc : 64 ≤ c) (hbad : sealed (l.take 60) ≠ l) :
    Calls Try.prog 19 #[.slice A 64 c] w fun e w' => e = .returned (.tuple #[zeroI, .int .i64 101]) ∧ Below w.heap.size w w' := by
  have H := hide h
  have Hbad := hide hbad
  clear h hbad
  go_enter Try.func19, Try.ntmps19
  go_wp2_with fail
  refine (open_bad A 60 c B l _ (H.out.alloc hB _) (by simp; omega) hc (by omega) Hbad.out).mono ?_
  rintro e w1 ⟨rfl, hb1⟩
  have Hb1 := hide (show Below (w.heap.size + 1) _ w1 from by simpa using hb1)
  clear hb1
  have B1 := boxed Hb1.out
  have hlt : w.heap.size < w1.heap.size := B1.lt
  obtain ⟨c0, c1, c2, c3, c4, c5, c6, c7, c8, c9, c10, c11, c12, c13⟩ : w1.cell? ⟨w.heap.size, 0, none⟩ = some (.int .i64 0) ∧ w1.cell? ⟨w.heap.size, 1, none⟩ = some (.int .i64 0) ∧ w1.cell? ⟨w.heap.size, 2, none⟩ = some (.int .i64 0) ∧ w1.cell? ⟨w.heap.size, 3, none⟩ = some (.int .i64 0) ∧ w1.cell? ⟨w.heap.size, 4, none⟩ = some (.int .i64 0) ∧ w1.cell? ⟨w.heap.size, 5, none⟩ = some (.int .u32 0) ∧ w1.cell? ⟨w.heap.size, 6, none⟩ = some (.int .u32 0) ∧ w1.cell? ⟨w.heap.size, 7, none⟩ = some (.int .u32 0) ∧ w1.cell? ⟨w.heap.size, 8, none⟩ = some (.int .u32 0) ∧ w1.cell? ⟨w.heap.size, 9, none⟩ = some (.int .u32 0) ∧ w1.cell? ⟨w.heap.size, 10, none⟩ = some (.int .u32 0) ∧ w1.cell? ⟨w.heap.size, 11, none⟩ = some (.int .u32 0) ∧ w1.cell? ⟨w.heap.size, 12, none⟩ = some (.int .u32 0) ∧ w1.cell? ⟨w.heap.size, 13, none⟩ = some (.int .u32 0) := ⟨B1.cell 0, B1.cell 1, B1.cell 2, B1.cell 3, B1.cell 4, B1.cell 5, B1.cell 6, B1.cell 7, B1.cell 8, B1.cell 9, B1.cell 10, B1.cell 11, B1.cell 12, B1.cell 13⟩
  have F := fun i => B1.frozen i
  have f0 := F 0
  have f1 := F 1
  have f2 := F 2
  have f3 := F 3
  have f4 := F 4
  have f5 := F 5
  have f6 := F 6
  have f7 := F 7
  have f8 := F 8
  have f9 := F 9
  have f10 := F 10
  have f11 := F 11
  have f12 := F 12
  have f13 := F 13
  clear F B1
  go_wp2_with fail
  exact bodyPost_ret (v := .tuple #[zeroI, .int .i64 101]) (by simp [results, Try.results19, go_sem, zeroI, c0, c1, c2, c3, c4, c5, c6, c7, c8, c9, c10, c11, c12, c13]) rfl ⟨rfl, (((((((((((((((box_end Hb1.out).setCell (Nat.le_refl _) _).setCell (Nat.le_refl _) _).setCell (Nat.le_refl _) _).setCell (Nat.le_refl _) _).setCell (Nat.le_refl _) _).setCell (Nat.le_refl _) _).setCell (Nat.le_refl _) _).setCell (Nat.le_refl _) _).setCell (Nat.le_refl _) _).setCell (Nat.le_refl _) _).setCell (Nat.le_refl _) _).setCell (Nat.le_refl _) _).setCell (Nat.le_refl _) _).setCell (Nat.le_refl _) _)⟩

theorem u8_xor_nat (a b : Nat) (ha : a < 256) (hb : b < 256) : bits .xor .u8 (a : Int) (b : Int) = ((a ^^^ b : Nat) : Int) := by
  have hx : a ^^^ b < 256 := Nat.xor_lt_two_pow (n := 8) ha hb
  have e : ∀ x : Nat, x < 256 → (BitVec.ofInt 8 (x : Int)).toNat = x := fun x hx => by rw [BitVec.ofInt_natCast, BitVec.toNat_ofNat]; exact Nat.mod_eq_of_lt hx
  show IntKind.u8.wrap ((BitVec.ofInt 8 (a : Int) ^^^ BitVec.ofInt 8 (b : Int)).toNat : Int) = _
  rw [BitVec.toNat_xor, e a ha, e b hb]
  simp [IntKind.wrap, IntKind.bits, IntKind.signed]
  omega
theorem xor_bit (x j : Nat) (hx : x < 256) (hj : j < 8) : ∃ y : Nat, bits .xor .u8 (x : Int) (2 ^ j % 256) = y ∧ y < 256 ∧ y ≠ x := by
  have h1 : 2 ^ j < 256 := Nat.pow_lt_pow_right (m := j) (n := 8) (by omega) hj
  have h2 : 0 < 2 ^ j := Nat.pow_pos (by omega)
  have e : ((2 : Int) ^ j % 256) = ((2 ^ j : Nat) : Int) := by
    have : ((2 : Int) ^ j) = ((2 ^ j : Nat) : Int) := by rw [Int.natCast_pow]; rfl
    rw [this]; omega
  refine ⟨x ^^^ 2 ^ j, by rw [e, u8_xor_nat _ _ hx h1], Nat.xor_lt_two_pow (n := 8) hx h1, fun h => ?_⟩
  have := congrArg (· ^^^ x) h
  simp only [Nat.xor_self] at this
  rw [Nat.xor_comm x, Nat.xor_assoc, Nat.xor_self, Nat.xor_zero] at this
  omega
theorem crcByte_inj {c d : Nat} {x y : UInt8} (hc : c < 4294967296) (hd : d < 4294967296) (h : crcByte c x = crcByte d y) : c ^^^ x.toNat = d ^^^ y.toNat :=
  bitN_inj 8 _ _ (u32_xor_lt _ _ hc (by have := x.toNat_lt; omega)) (u32_xor_lt _ _ hd (by have := y.toNat_lt; omega)) h
theorem xor_right {a b c : Nat} (h : a ^^^ c = b ^^^ c) : a = b := by
  have := congrArg (· ^^^ c) h; simpa [Nat.xor_assoc] using this
theorem xor_left {a b c : Nat} (h : c ^^^ a = c ^^^ b) : a = b := by
  rw [Nat.xor_comm c, Nat.xor_comm c] at h; exact xor_right h
theorem crcRun_inj (l : List UInt8) : ∀ {c d : Nat}, c < 4294967296 → d < 4294967296 → crcRun c l = crcRun d l → c = d := by
  induction l with
  | nil => intro c d _ _ h; exact h
  | cons x l ih =>
    intro c d hc hd h
    have := ih (crcByte_lt c x hc) (crcByte_lt d x hd) h
    exact xor_right (crcByte_inj hc hd this)
theorem crc_set_ne (l : List UInt8) (k : Nat) (y : UInt8) (hk : k < l.length) (hy : y ≠ l[k]) : crc (l.set k y) ≠ crc l := by
  intro h
  unfold crc crcMore at h
  have h1 := xor_right h
  have e1 : l.set k y = l.take k ++ y :: l.drop (k + 1) := by rw [List.set_eq_take_append_cons_drop, if_pos hk]
  have e2 : l = l.take k ++ l[k] :: l.drop (k + 1) := by rw [List.getElem_cons_drop, List.take_append_drop]
  rw [e1] at h1
  conv at h1 => rhs; rw [e2]
  rw [crcRun_append, crcRun_append] at h1
  have hc : crcRun (0 ^^^ 4294967295) (l.take k) < 4294967296 := crcRun_lt _ _ (by decide)
  have h2 := crcRun_inj (l.drop (k + 1)) (crcByte_lt _ y hc) (crcByte_lt _ l[k] hc) h1
  exact hy (UInt8.toNat_inj.1 (xor_left (crcByte_inj hc hc h2)))
/-- A sealed block with one byte changed is none. -/
theorem sealed_set (m : List UInt8) (k : Nat) (y : UInt8) (hk : k < (sealed m).length) (hy : y ≠ (sealed m)[k]) :
    sealed (((sealed m).set k y).take m.length) ≠ (sealed m).set k y := by
  intro h
  by_cases hkm : k < m.length
  · have hy' : y ≠ m[k] := by
      intro e; apply hy; rw [e]; simp [sealed, List.getElem_append_left hkm]
    have e1 : (sealed m).set k y = m.set k y ++ four (crc m) := by unfold sealed; exact List.set_append_left _ _ hkm
    rw [e1, List.take_left' (by simp)] at h
    unfold sealed at h
    have h2 := List.append_cancel_left h
    exact crc_set_ne m k y hkm hy' (four_inj (crc_lt _) (crc_lt _) h2)
  · have e1 : ((sealed m).set k y).take m.length = m := by
      rw [List.take_set_of_le (by omega)]; unfold sealed; rw [List.take_left' rfl]
    rw [e1] at h
    have := congrArg (fun l : List UInt8 => l[k]?) h
    simp only [List.getElem?_set_self hk, List.getElem?_eq_getElem hk, Option.some.injEq] at this
    exact hy this.symm
theorem at512 (a : Int) : ∃ k : Nat, RowKit.wrap64 ((IntKind.u64.wrap a).tmod 512) = k ∧ k < 512 := by
  have h0' : 0 ≤ IntKind.u64.wrap a := by simp [IntKind.wrap, IntKind.bits, IntKind.signed]; omega
  generalize IntKind.u64.wrap a = u at *
  rw [Int.tmod_eq_emod_of_nonneg h0']
  have e1 := Int.emod_nonneg u (show (512 : Int) ≠ 0 by omega)
  have e2 := Int.emod_lt_of_pos u (show (0 : Int) < 512 by omega)
  exact ⟨(u % 512).toNat, by rw [IntWalk.wrap64_in _ (by omega)]; omega, by omega⟩

set_option maxRecDepth 100000 in
set_option maxHeartbeats 1000000 in
theorem seal_no (a v k l s : Int) (p0 p1 p2 p3 p4 p5 p6 p7 p8 : Nat) (n : Int) (w : World) (h : ¬ InoP a v k l s) :
    Calls Try.prog 9 #[inoV a v k l s p0 p1 p2 p3 p4 p5 p6 p7 p8, .int .i64 n] w fun e w' => e = .returned (.bool true) ∧ Below w.heap.size w w' := by
  have H := hide h
  clear h
  go_enter Try.func9, Try.ntmps9
  go_wp2_with fail
  have Hb0 := hide (Below.refl (w.heap.size + 1) (w.alloc (.cells #[.int .i64 a, .int .i64 v, .int .i64 k, .int .i64 l, .int .i64 s, .int .u32 (p0 : Int), .int .u32 (p1 : Int), .int .u32 (p2 : Int), .int .u32 (p3 : Int), .int .u32 (p4 : Int), .int .u32 (p5 : Int), .int .u32 (p6 : Int), .int .u32 (p7 : Int), .int .u32 (p8 : Int)] 28)))
  refine (awake_any _).mono ?_
  rintro e w1 ⟨rfl, hb1⟩
  have Hb1 := hide (box_next Hb0.out hb1)
  have B1 := boxed Hb1.out
  obtain ⟨c0, c1, c2, c3, c4, c5, c6, c7, c8, c9, c10, c11, c12, c13⟩ : w1.cell? ⟨w.heap.size, 0, none⟩ = some (.int .i64 a) ∧ w1.cell? ⟨w.heap.size, 1, none⟩ = some (.int .i64 v) ∧ w1.cell? ⟨w.heap.size, 2, none⟩ = some (.int .i64 k) ∧ w1.cell? ⟨w.heap.size, 3, none⟩ = some (.int .i64 l) ∧ w1.cell? ⟨w.heap.size, 4, none⟩ = some (.int .i64 s) ∧ w1.cell? ⟨w.heap.size, 5, none⟩ = some (.int .u32 (p0 : Int)) ∧ w1.cell? ⟨w.heap.size, 6, none⟩ = some (.int .u32 (p1 : Int)) ∧ w1.cell? ⟨w.heap.size, 7, none⟩ = some (.int .u32 (p2 : Int)) ∧ w1.cell? ⟨w.heap.size, 8, none⟩ = some (.int .u32 (p3 : Int)) ∧ w1.cell? ⟨w.heap.size, 9, none⟩ = some (.int .u32 (p4 : Int)) ∧ w1.cell? ⟨w.heap.size, 10, none⟩ = some (.int .u32 (p5 : Int)) ∧ w1.cell? ⟨w.heap.size, 11, none⟩ = some (.int .u32 (p6 : Int)) ∧ w1.cell? ⟨w.heap.size, 12, none⟩ = some (.int .u32 (p7 : Int)) ∧ w1.cell? ⟨w.heap.size, 13, none⟩ = some (.int .u32 (p8 : Int)) := ⟨B1.cell 0, B1.cell 1, B1.cell 2, B1.cell 3, B1.cell 4, B1.cell 5, B1.cell 6, B1.cell 7, B1.cell 8, B1.cell 9, B1.cell 10, B1.cell 11, B1.cell 12, B1.cell 13⟩
  clear hb1 B1
  go_wp2_with fail
  refine (enc_no a v k l s p0 p1 p2 p3 p4 p5 p6 p7 p8 _ H.out).mono ?_
  rintro e w2 ⟨rfl, hb2⟩
  have Hb2 := hide (box_next Hb1.out hb2)
  clear hb2
  go_wp2_with fail
  go_ret
  exact ⟨rfl, box_end Hb2.out⟩

set_option maxRecDepth 100000 in
set_option maxHeartbeats 2000000 in
theorem seal_yes (a v k l s : Nat) (p0 p1 p2 p3 p4 p5 p6 p7 p8 : Nat) (n : Int) (w : World) (h : InoP a v k l s) (b0 : p0 < 4294967296) (b1 : p1 < 4294967296) (b2 : p2 < 4294967296) (b3 : p3 < 4294967296) (b4 : p4 < 4294967296) (b5 : p5 < 4294967296) (b6 : p6 < 4294967296) (b7 : p7 < 4294967296) (b8 : p8 < 4294967296) :
    Calls Try.prog 9 #[inoV a v k l s p0 p1 p2 p3 p4 p5 p6 p7 p8, .int .i64 n] w fun e w' => e = .returned (.bool true) ∧ Below w.heap.size w w' := by
  obtain ⟨q, hq, hq5⟩ := at512 n
  have C1 := hide (fun w => enc_yes a v k l s p0 p1 p2 p3 p4 p5 p6 p7 p8 w h b0 b1 b2 b3 b4 b5 b6 b7 b8)
  clear h b0 b1 b2 b3 b4 b5 b6 b7 b8
  go_enter Try.func9, Try.ntmps9
  go_wp2_with fail
  have Hb0 := hide (Below.refl (w.heap.size + 1) (w.alloc (.cells #[.int .i64 (a : Int), .int .i64 (v : Int), .int .i64 (k : Int), .int .i64 (l : Int), .int .i64 (s : Int), .int .u32 (p0 : Int), .int .u32 (p1 : Int), .int .u32 (p2 : Int), .int .u32 (p3 : Int), .int .u32 (p4 : Int), .int .u32 (p5 : Int), .int .u32 (p6 : Int), .int .u32 (p7 : Int), .int .u32 (p8 : Int)] 28)))
  refine (awake_any _).mono ?_
  rintro e w1 ⟨rfl, hb1⟩
  have Hb1 := hide (box_next Hb0.out hb1)
  have B1 := boxed Hb1.out
  obtain ⟨c0, c1, c2, c3, c4, c5, c6, c7, c8, c9, c10, c11, c12, c13⟩ : w1.cell? ⟨w.heap.size, 0, none⟩ = some (.int .i64 (a : Int)) ∧ w1.cell? ⟨w.heap.size, 1, none⟩ = some (.int .i64 (v : Int)) ∧ w1.cell? ⟨w.heap.size, 2, none⟩ = some (.int .i64 (k : Int)) ∧ w1.cell? ⟨w.heap.size, 3, none⟩ = some (.int .i64 (l : Int)) ∧ w1.cell? ⟨w.heap.size, 4, none⟩ = some (.int .i64 (s : Int)) ∧ w1.cell? ⟨w.heap.size, 5, none⟩ = some (.int .u32 (p0 : Int)) ∧ w1.cell? ⟨w.heap.size, 6, none⟩ = some (.int .u32 (p1 : Int)) ∧ w1.cell? ⟨w.heap.size, 7, none⟩ = some (.int .u32 (p2 : Int)) ∧ w1.cell? ⟨w.heap.size, 8, none⟩ = some (.int .u32 (p3 : Int)) ∧ w1.cell? ⟨w.heap.size, 9, none⟩ = some (.int .u32 (p4 : Int)) ∧ w1.cell? ⟨w.heap.size, 10, none⟩ = some (.int .u32 (p5 : Int)) ∧ w1.cell? ⟨w.heap.size, 11, none⟩ = some (.int .u32 (p6 : Int)) ∧ w1.cell? ⟨w.heap.size, 12, none⟩ = some (.int .u32 (p7 : Int)) ∧ w1.cell? ⟨w.heap.size, 13, none⟩ = some (.int .u32 (p8 : Int)) := ⟨B1.cell 0, B1.cell 1, B1.cell 2, B1.cell 3, B1.cell 4, B1.cell 5, B1.cell 6, B1.cell 7, B1.cell 8, B1.cell 9, B1.cell 10, B1.cell 11, B1.cell 12, B1.cell 13⟩
  clear hb1 B1
  go_wp2_with fail
  refine (C1.out _).mono ?_
  rintro e w2 ⟨A, c, rfl, hown2, hb2⟩
  have Hb2 := hide (box_next Hb1.out hb2)
  have Hown2 := hide hown2
  clear hb2 hown2 c0 c1 c2 c3 c4 c5 c6 c7 c8 c9 c10 c11 c12 c13 C1
  generalize hm : inoBytes a v k l s [p0, p1, p2, p3, p4, p5, p6, p7, p8] = mm at *
  have hm60 : mm.length = 60 := by rw [← hm]; exact inoBytes_length _ _ _ _ _ _ rfl
  have Hm := hide hm60
  clear hm hm60
  obtain ⟨ad, u, rfl, hadb, hadl, hu, hcell, hfz, hset⟩ := own_at Hown2.out (show q / 8 < 64 by omega)
  have hkl : q / 8 < (sealed mm).length := by simp only [sealed, List.length_append, four_length, Hm.out]; omega
  rw [u8s_get, List.getElem?_eq_getElem hkl] at hu
  simp only [Option.map_some, Option.some.injEq] at hu
  have Hset := hide hset
  have Hadl := hide hadl
  have Hadb := hide hadb
  clear hset hadl hadb
  have hxl := (sealed mm)[q / 8].toNat_lt
  generalize hx : (sealed mm)[q / 8] = x at *
  have Hx := hide hx
  clear hx
  subst hu
  obtain ⟨y, hy, hy256, hyx⟩ := xor_bit x.toNat (q % 8) hxl (by omega)
  go_wp2_with fail
  go_region
  have hrow := Hset.out (.int .u8 (y : Int))
  have HR := hide (show OwnBy (w2.setCell (ad.add (q / 8)) (.int .u8 (y : Int))) w1.heap.size (some ad) 64 c ((sealed mm).set (q / 8) (UInt8.ofNat y)) from by
    unfold OwnBy
    rw [u8s, List.map_set, UInt8.toNat_ofNat', show (y % 2 ^ 8 : Nat) = y by omega]
    exact hrow)
  have Hb3 := hide ((Hb2.out.setCell (p := ad.add (q / 8)) (by rw [addr_block]; have := Hb1.out.size; simp at this; have := Hadb.out; omega) (.int .u8 (y : Int))).drew)
  have hc64 : 64 ≤ c := by
    obtain ⟨_, _, e, h1, _⟩ := own_form HR.out
    injection e with e1 e2 e3
    omega
  have HR2 := hide (own_drewN HR.out 1)
  clear hrow Hset HR
  change Hid ((w2.setCell (ad.add (q / 8)) (.int .u8 (y : Int))).drew.ownsRow _ _ _ _ _ _) at HR2
  generalize (w2.setCell (ad.add (q / 8)) (.int .u8 (y : Int))).drew = w3 at *
  have hne : UInt8.ofNat y ≠ (sealed mm)[q / 8] := by
    intro e
    rw [Hx.out] at e
    have := congrArg UInt8.toNat e
    rw [UInt8.toNat_ofNat'] at this
    omega
  have hbad := sealed_set mm (q / 8) (UInt8.ofNat y) hkl hne
  rw [Hm.out] at hbad
  have Hbad := hide hbad
  clear hbad hne hcell hfz
  have hz := zero_same
  go_wp2_with fail
  refine (dec_sum (some ad) c _ _ w3 (Sl.of_own HR2.out) (Nat.le_refl _) hc64 Hbad.out).mono ?_
  rintro e w4 ⟨rfl, hb4⟩
  have Hb4 := hide (box_next Hb3.out hb4)
  clear hb4
  go_wp2_with fail
  go_ret
  exact ⟨rfl, (box_end Hb4.out).alloc (box_end Hb4.out).size _⟩

theorem seal_all (a v k l s : Int) (p0 p1 p2 p3 p4 p5 p6 p7 p8 : Nat) (n : Int) (w : World) (b0 : p0 < 4294967296) (b1 : p1 < 4294967296) (b2 : p2 < 4294967296) (b3 : p3 < 4294967296) (b4 : p4 < 4294967296) (b5 : p5 < 4294967296) (b6 : p6 < 4294967296) (b7 : p7 < 4294967296) (b8 : p8 < 4294967296) :
    Calls Try.prog 9 #[inoV a v k l s p0 p1 p2 p3 p4 p5 p6 p7 p8, .int .i64 n] w fun e w' => e = .returned (.bool true) ∧ Below w.heap.size w w' := by
  by_cases h : InoP a v k l s
  · obtain ⟨a, rfl⟩ := Int.eq_ofNat_of_zero_le (show 0 ≤ a by have := h.1; omega)
    obtain ⟨v, rfl⟩ := Int.eq_ofNat_of_zero_le (show 0 ≤ v by have := h.2.1; omega)
    obtain ⟨k, rfl⟩ := Int.eq_ofNat_of_zero_le (show 0 ≤ k by have := h.2.2.1; omega)
    obtain ⟨l, rfl⟩ := Int.eq_ofNat_of_zero_le (show 0 ≤ l by have := h.2.2.2.1; omega)
    obtain ⟨s, rfl⟩ := Int.eq_ofNat_of_zero_le (show 0 ≤ s by have := h.2.2.2.2; omega)
    exact seal_yes a v k l s p0 p1 p2 p3 p4 p5 p6 p7 p8 n w h b0 b1 b2 b3 b4 b5 b6 b7 b8
  · exact seal_no a v k l s p0 p1 p2 p3 p4 p5 p6 p7 p8 n w h
end Go.Proofs.Ytbceejcmjklklaa
