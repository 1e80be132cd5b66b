/- The walks over geom.Encode, marlref03.Four and marlref03.Encode. -/
import Derived.Test.YtdcojnmgipidmaaGeomA
import Derived.Test.YtdcojnmgipidmaaSealW
import Derived.Test.YtdcojnmgipidmaaRefOpenW
import Derived.Lib.SlBytesConst
namespace Go.Proofs.Ytdcojnmgipidmaa
open Go.RowKit

def marl : List UInt8 := [77, 65, 82, 76]
/-- A geometry's bytes ahead of the zeros; so many numbers of it. -/
def geoPre (l : List Nat) (k : Nat) : List UInt8 := marl ++ (l.take k).flatMap four
/-- A geometry's bytes, all but the sum. -/
def geoBytes (b s i : Nat) : List UInt8 := geoPre [b, s, i] 3 ++ List.replicate 44 0
theorem geoPre_snoc {l : List Nat} {k : Nat} (hk : k < l.length) : geoPre l (k + 1) = geoPre l k ++ four l[k] := by
  unfold geoPre; rw [List.take_succ_eq_append_getElem hk]; simp only [List.flatMap_append, List.flatMap_cons, List.flatMap_nil, List.append_nil, List.append_assoc]
theorem geoBytes_length (b s i : Nat) : (geoBytes b s i).length = 60 := by simp [geoBytes, geoPre, marl, four]

set_option maxHeartbeats 400000 in
theorem enc_no (b s i : Int) (w : World) (h : ¬ GeoP b s i) :
    Calls Try.prog 18 #[geoV b s i] w fun e w' => e = .returned (.tuple #[.slice none 0 0, .int .i64 22]) ∧ Below w.heap.size w w' := by
  have H := hide h
  clear h
  go_enter Try.func18, Try.ntmps18
  go_wp2_with fail
  refine (check_no b s i _ H.out).mono ?_
  rintro e w1 ⟨rfl, hb1⟩
  simp only [World.size_alloc] at hb1
  go_wp2
  go_ret2
  exact ⟨rfl, box_end hb1⟩

theorem index3_0 (a b c : Int) (W : World) : (Instr.index 52 (.agg #[.int .i64 a, .int .i64 b, .int .i64 c]) (.int .i64 0)).run Try.prog W = .ok (.int .i64 a) W := by kernel_rfl
theorem index3_1 (a b c : Int) (W : World) : (Instr.index 52 (.agg #[.int .i64 a, .int .i64 b, .int .i64 c]) (.int .i64 1)).run Try.prog W = .ok (.int .i64 b) W := by kernel_rfl
theorem index3_2 (a b c : Int) (W : World) : (Instr.index 52 (.agg #[.int .i64 a, .int .i64 b, .int .i64 c]) (.int .i64 2)).run Try.prog W = .ok (.int .i64 c) W := by kernel_rfl
theorem index3 (a b c : Nat) (k : Nat) (hk : k < [a, b, c].length) (W : World) :
    (Instr.index 52 (.agg #[.int .i64 (a : Int), .int .i64 (b : Int), .int .i64 (c : Int)]) (.int .i64 (k : Int))).run Try.prog W = .ok (.int .i64 ([a, b, c][k] : Nat)) W := by
  have : k = 0 ∨ k = 1 ∨ k = 2 := by simp at hk; omega
  rcases this with rfl | rfl | rfl
  · exact index3_0 _ _ _ W
  · exact index3_1 _ _ _ W
  · exact index3_2 _ _ _ W

theorem zeros_u8 (n : Nat) : u8s (List.replicate n 0) = List.replicate n (.int .u8 0) := by simp [u8s]
theorem marl_by (w : World) : By (w.alloc (.cells #[.int .u8 77, .int .u8 65, .int .u8 82, .int .u8 76] 5 (4, 5))) (w.alloc (.cells #[.int .u8 77, .int .u8 65, .int .u8 82, .int .u8 76] 5 (4, 5))).heap.size (some ⟨w.heap.size, 0, none⟩) 4 marl := by
  refine ⟨rfl, fun j u hu => ⟨_, rfl, by simp, ?_⟩⟩
  rw [show (Addr.mk w.heap.size 0 none).add j = ⟨w.heap.size, j, none⟩ by unfold Addr.add; split <;> simp_all]
  rw [cell_of_row _ _ _ _ _ _ (heap_alloc_new w _)]
  simpa [marl, u8s] using hu

set_option maxHeartbeats 1000000 in
theorem enc_yes (b s i : Nat) (w : World) (h : GeoP b s i) :
    Calls Try.prog 18 #[geoV b s i] w fun e w' => ∃ A c, e = .returned (.tuple #[.slice A 64 c, .int .i64 0]) ∧ OwnBy w' w.heap.size A 64 c (sealed (geoBytes b s i)) ∧ Below w.heap.size w w' := by
  have H := hide h
  clear h
  have kc := fun (w : World) (C : Array Value) (n c : Nat) => Lib.run_convert_bytes_const (P := Try.prog) w 41 5 C n c Try.underlying41 Try.underlying5
  go_enter Try.func18, Try.ntmps18
  go_wp2_with fail
  refine (check_yes b s i _ H.out).mono ?_
  rintro e w1 ⟨rfl, hb1⟩
  have Hb1 := hide (box_next (Below.refl _ _) hb1)
  obtain ⟨c0, c1, c2⟩ := box3 Hb1.out
  clear hb1
  have hlt : w.heap.size < w1.heap.size := by have := Hb1.out.size; simp at this; omega
  have m0 : (w1.alloc (.cells #[.int .u8 77, .int .u8 65, .int .u8 82, .int .u8 76] 5 (4, 5))).cell? ⟨w.heap.size, 0, none⟩ = some (.int .i64 b) := by rw [World.cell?_alloc_lt _ _ _ hlt]; exact c0
  have m1 : (w1.alloc (.cells #[.int .u8 77, .int .u8 65, .int .u8 82, .int .u8 76] 5 (4, 5))).cell? ⟨w.heap.size, 1, none⟩ = some (.int .i64 s) := by rw [World.cell?_alloc_lt _ _ _ hlt]; exact c1
  have m2 : (w1.alloc (.cells #[.int .u8 77, .int .u8 65, .int .u8 82, .int .u8 76] 5 (4, 5))).cell? ⟨w.heap.size, 2, none⟩ = some (.int .i64 i) := by rw [World.cell?_alloc_lt _ _ _ hlt]; exact c2
  go_wp2_with fail
  clear m0 m1 m2 c0 c1 c2 kc
  have Hw2 := hide (marl_by w1)
  have Hbw := hide ((Below.refl w1.heap.size w1).alloc (Nat.le_refl _) (.cells #[.int .u8 77, .int .u8 65, .int .u8 82, .int .u8 76] 5 (4, 5)))
  generalize hw2 : w1.alloc (.cells #[.int .u8 77, .int .u8 65, .int .u8 82, .int .u8 76] 5 (4, 5)) = w2 at *
  clear hw2
  go_loopw [5, 22] (fun v i' wr => ∃ k : Nat, k ≤ 3 ∧ i' = .int .i64 k ∧ Below w1.heap.size w1 wr ∧ ((k = 0 ∧ v = .slice (some ⟨w1.heap.size, 0, none⟩) 4 4 ∧ By wr wr.heap.size (some ⟨w1.heap.size, 0, none⟩) 4 marl) ∨
    (1 ≤ k ∧ ∃ A c, v = .slice A (4 + 4 * k) c ∧ OwnBy wr w1.heap.size A (4 + 4 * k) c (geoPre [b, s, i] k)))) (fun _ i' _ => 3 - (intOf i').toNat)
  case atStart => exact ⟨0, by omega, rfl, Hbw.out, .inl ⟨rfl, rfl, Hw2.out⟩⟩
  case round =>
    obtain ⟨k, hk, rfl, hb3, hcase⟩ := hrel
    have Hb3 := hide hb3
    clear hb3
    by_cases hlt3 : k < 3
    · have hkl : k < [b, s, i].length := by simpa using hlt3
      have hidx := fun W => index3 b s i k hkl W
      have hsn := hide (geoPre_snoc hkl)
      have h4 := hide (u8s_four ([b, s, i][k]))
      generalize [b, s, i][k] = x at *
      rcases hcase with ⟨h0, rfl, hby⟩ | ⟨h1, A, c, rfl, hown⟩
      · have Hby := hide hby
        have H0 := hide h0
        clear hby h0
        go_wp2_with (
          at_builtin
          refine wpList_app_new _ rfl (.tmp 25) (.tmp 37) _ rfl ety8 wr.heap.size ⟨w1.heap.size, 0, none⟩ 4 4 (u8s marl) rfl (Hby.out.alloc (Nat.le_refl _) _) (wr.heap.size + 1) (some ⟨wr.heap.size, 0, none⟩) 4 4 (u8s (four x)) rfl
            ?_ (Nat.le_refl _) (by omega) (by omega) ?_
          · have := (own_bytes (w := wr) (base := 0) (n := 4) (l := four x) #[.int .u8 ((x : Int) % 256), .int .u8 ((x : Int) / 256 % 256), .int .u8 ((x : Int) / 65536 % 256), .int .u8 ((x : Int) / 16777216 % 256)] (by rw [h4.out]; simp) (Nat.zero_le _) rfl (by omega)).by
            simpa using this
          intro A4 c4 w4 hown4 hb4
          have Hown4 := hide hown4
          have Hb4 := hide hb4
          clear hown4 hb4)
        go_roundw
        case rel =>
          refine ⟨k + 1, by omega, by go_num, (Hb3.out.alloc Hb3.out.size _).trans (Hb4.out.mono (by have := Hb3.out.size; simp; omega)), .inr ⟨by omega, A4, c4, by rw [H0.out], ?_⟩⟩
          rw [hsn.out, H0.out, OwnBy, u8s_append]
          exact own_base Hown4.out (by have := Hb3.out.size; simp; omega)
        case measure => simp [intOf]; omega
      · have Hown := hide hown
        clear hown
        go_wp2_with (
          at_builtin
          refine wpList_app _ rfl (.tmp 25) (.tmp 37) _ rfl ety8 w1.heap.size (.slice A (4 + 4 * k) c) (4 + 4 * k) (u8s (geoPre [b, s, i] k)) rfl (Hown.out.alloc _) (wr.heap.size + 1) (some ⟨wr.heap.size, 0, none⟩) 4 4 (u8s (four x)) rfl
            ?_ (u8s_one _) (by omega) (by have := Hb3.out.size; simp; omega) ?_
          · have := (own_bytes (w := wr) (base := 0) (n := 4) (l := four x) #[.int .u8 ((x : Int) % 256), .int .u8 ((x : Int) / 256 % 256), .int .u8 ((x : Int) / 65536 % 256), .int .u8 ((x : Int) / 16777216 % 256)] (by rw [h4.out]; simp) (Nat.zero_le _) rfl (by omega)).by
            simpa using this
          intro A4 c4 w4 hown4 hg4 _
          have Hown4 := hide hown4
          have Hb4 := hide ((Hb3.out.alloc Hb3.out.size _).grown hg4 (by have := Hb3.out.size; simp; omega) (fun k hk => (Hown.out.lt k hk).1))
          clear hown4 hg4)
        go_roundw
        case rel =>
          refine ⟨k + 1, by omega, by go_num, Hb4.out, .inr ⟨by omega, A4, c4, by rw [show 4 + 4 * (k + 1) = 4 + 4 * k + 4 by omega], ?_⟩⟩
          rw [hsn.out, OwnBy, u8s_append, show 4 + 4 * (k + 1) = 4 + 4 * k + 4 by omega]
          exact Hown4.out
        case measure => simp [intOf]; omega
    · have hk3 : k = 3 := by omega
      subst hk3
      obtain ⟨A, c, rfl, hown⟩ : ∃ A c, u5 = .slice A 16 c ∧ OwnBy wr w1.heap.size A 16 c (geoPre [b, s, i] 3) := by
        rcases hcase with ⟨h0, _⟩ | ⟨_, A, c, h, hown⟩
        · omega
        · exact ⟨A, c, h, hown⟩
      clear hcase
      have Hown := hide hown
      clear hown
      obtain ⟨A5, c5, w5, hr5, hown5, hg5, -⟩ := run_app_zeros (P := Try.prog) wr (tn := 3) (ty := 41) (kn := .i64) (kq := .i64) ety8 rfl rfl Try.underlying3 w1.heap.size (.slice A 16 c) 16 _ Hown.out 44 (by omega) Hb3.out.size
      have hr6 : (Builtin.append_ #[41, 3] 41 #[.slice A 16 c, .int .i64 44]).run Try.prog wr = .ok (.slice A5 60 c5) w5 := hr5
      have Hr6 := hide hr6
      have Hown5 := hide (show OwnBy w5 w1.heap.size A5 60 c5 (geoBytes b s i) by
        rw [OwnBy, geoBytes, u8s_append, zeros_u8]; exact hown5)
      have Hb5 := hide (Hb3.out.grown hg5 Hb3.out.size (fun k hk => (Hown.out.lt k hk).1))
      clear hr5 hr6 hown5 hg5
      go_wp2_with (
        at_builtin
        refine Lib.wpList_append_run _ rfl (.tmp 40) (.tmp 43) _ _ rfl _ _ rfl rfl _ _ Hr6.out ?_)
      refine (seal_any _ _ _ _ (geoBytes b s i) _ Hown5.out.by (Nat.le_refl _) (by omega)).mono ?_
      rintro e w6 ⟨A6, c6, rfl, hown6, hb6⟩
      have Hown6 := hide hown6
      clear hown6
      go_wp2
      go_ret2
      exact ⟨A6, c6, rfl, own_by_base Hown6.out (by have := Hb5.out.size; omega), (box_end Hb1.out).trans ((Hb5.out.mono (by omega)).trans (hb6.mono (by have := Hb5.out.size; omega)))⟩
end Go.Proofs.Ytdcojnmgipidmaa
