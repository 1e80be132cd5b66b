/- The walk over inode.Block: the block of sixteen pointers. -/
import Derived.Test.YtbceejcmjklklaaInoAwakeW
import Derived.Test.YtbceejcmjklklaaConv
import Derived.Deep.DrawnRows
namespace Go.Proofs.Ytbceejcmjklklaa
open Go.RowKit

/-- Pointers as cells. -/
def u32s (ps : List Nat) : List Value := ps.map fun (p : Nat) => Value.int .u32 (p : Int)
theorem u32s_length (ps : List Nat) : (u32s ps).length = ps.length := by simp [u32s]
theorem u32s_get (ps : List Nat) (i : Nat) : (u32s ps)[i]? = ps[i]?.map fun (p : Nat) => Value.int .u32 (p : Int) := by simp [u32s]
theorem u32s_one (ps : List Nat) : (u32s ps).toArray.all (·.oneCell') = true := all_oneCell_toArray (fun v hv => by
  simp only [u32s, List.mem_map] at hv
  obtain ⟨a, _, rfl⟩ := hv
  rfl)
theorem ld_row (w : World) (g n : Nat) (t : TypeId) (cs : List Value) (hn : cs.length = n) (h : Blk w g t cs.toArray) : (loadCellsFrom ⟨g, 0, none⟩ 0 n #[]).run Try.prog w = .ok cs.toArray w := by
  subst hn
  have := run_loadCells_list (P := Try.prog) w ⟨g, 0, none⟩ cs (fun j v hv => by rw [Addr.add_mid, Nat.zero_add, h.cell]; simpa using hv)
  simpa [loadCells] using this
theorem run_clip (A : Option Addr) (n c : Nat) (w : World) (hn : n ≤ c) :
    Calls Try.prog 24 #[.slice A n c] w fun e w' => e = .returned (.slice A n n) ∧ w = w' := by
  go_enter Try.func24, Try.ntmps24
  go_wp2
  go_ret
  exact ⟨rfl, rfl⟩

theorem run_idx (w : World) (cs : Array Value) (j : Nat) (hj : j < 16) (v : Value) (hv : cs[j]? = some v) : (Instr.index 34 (.agg cs) (.int .i64 (j : Int))).run Try.prog w = .ok v w := by
  have hs : (sizeOf 25).run Try.prog w = .ok 1 w := Try.sizeOf25 w
  simp [Instr.index, asIntOf, run_underlying Try.underlying34, hs, hj, hv, part]
/-- Sizes and zero values, kept whole in a walk. -/
def szK_blk_any : Sem Nat := sizeOf 34
theorem szK_blk_any_keep : sizeOf 34 = szK_blk_any := rfl
def zvK_blk_any : Sem Value := zeroValue 34
theorem zvK_blk_any_keep : zeroValue 34 = zvK_blk_any := rfl
attribute [local go_sem ↓] szK_blk_any_keep zvK_blk_any_keep in
theorem blk_any (ps : List Nat) (h16 : ps.length = 16) (hb : ∀ p ∈ ps, p < 4294967296) (w : World) :
    Calls Try.prog 14 #[.agg (u32s ps).toArray] w fun e w' => ∃ A c, e = .returned (.slice A 64 64) ∧ OwnBy w' w.heap.size A 64 c (ps.flatMap four) ∧ Below w.heap.size w w' := by
  obtain ⟨k, hk⟩ : ∃ k, k = 16 := ⟨_, rfl⟩
  have ks : ∀ w, szK_blk_any.run Try.prog w = .ok k w := fun w => by rw [hk]; exact Try.sizeOf34 w
  have hk0 : ¬ k = 0 := by omega
  have k1 := ld_row (w.alloc (.cells (u32s ps).toArray 34)) w.heap.size k _ _ (by rw [u32s_length, h16, hk]) (Blk.new w _ _)
  have K := hide hk
  have H16 := hide h16
  have HB := hide hb
  clear hk h16 hb
  go_enter Try.func14, Try.ntmps14
  go_wp2_with fail
  go_loopw [3, 7] (fun v i wr => ∃ (j : Nat) (A : Option Addr) (c : Nat), j ≤ 16 ∧ v = .slice A (j * 4) c ∧ i = .int .i64 (j : Int) ∧ OwnBy wr w.heap.size A (j * 4) c ((ps.take j).flatMap four) ∧ Below w.heap.size w wr) (fun _ i _ => 16 - (intOf i).toNat)
  case atStart => exact ⟨0, none, 0, Nat.zero_le _, rfl, rfl, World.ownsRow_nil _ _ _ _, (Below.refl _ _).alloc (Nat.le_refl _) _⟩
  case round =>
    obtain ⟨j, A, c, hj, rfl, rfl, h1, h2⟩ := hrel
    have H1 := hide h1
    have H2 := hide h2
    clear h1 h2 k1
    by_cases hlt : j < 16
    · obtain ⟨p, hp⟩ : ∃ p, ps[j]? = some p := ⟨_, List.getElem?_eq_getElem (by rw [H16.out]; exact hlt)⟩
      have hpb := HB.out p (List.mem_of_getElem? hp)
      have hidx : (u32s ps).toArray[j]? = some (.int .u32 (p : Int)) := by simp [u32s, hp]
      have hst : Hid ((ps.take (j + 1)).flatMap four = (ps.take j).flatMap four ++ four p) := hide (by rw [List.take_add_one, hp]; simp)
      have hsz : Hid ((u32s ps).toArray.size = 16) := hide (by simp [u32s_length, H16.out])
      have kidx := run_idx wr _ j hlt _ hidx
      clear hp
      go_wp2_with fail
      refine (put_any A (j * 4) c w.heap.size _ p 4 wr H1.out H2.out.size (by omega) (by omega) (by decide)).mono ?_
      rintro e w2 ⟨A2, c2, rfl, hown, hb2⟩
      rw [leN_four, ← hst.out] at hown
      have Hown := hide hown
      have Hb2 := hide (H2.out.trans hb2)
      clear hown hb2
      go_wp2_with fail
      go_roundw
      case rel => exact ⟨j + 1, A2, c2, by omega, by rw [Nat.succ_mul], by go_num, by rw [Nat.succ_mul]; exact Hown.out, Hb2.out⟩
      case measure => simp [intOf]; omega
    · have hj16 : j = 16 := by omega
      subst hj16
      have hall : ps.take 16 = ps := List.take_of_length_le (by rw [H16.out]; exact Nat.le_refl _)
      rw [hall] at H1
      have hcap : 64 ≤ c := by
        obtain ⟨A', c', e, h1, _⟩ := own_form H1.out
        injection e with e1 e2 e3
        omega
      clear hall
      go_wp2_with fail
      refine (run_clip A 64 c wr hcap).mono ?_
      rintro e w2 ⟨rfl, rfl⟩
      go_wp2_with fail
      go_ret
      exact ⟨A, c, rfl, H1.out, H2.out⟩
end Go.Proofs.Ytbceejcmjklklaa
