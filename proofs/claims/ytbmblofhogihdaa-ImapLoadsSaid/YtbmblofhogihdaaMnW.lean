/- The walk of marlref11.New. -/
import Derived.Test.YtbmblofhogihdaaMlW
namespace Go.Proofs.Ytbmblofhogihdaa
open Go.RowKit
set_option maxRecDepth 100000
attribute [local go_sem ↓] Go.wp_at_zero Go.wp_at_succ

/-- An inode of the reference. -/
def inC (e : Ent) : List Value := [.int .i64 (e.ver : Int), .int .i64 (e.addr : Int), .bool e.busy, .bool false]
theorem inC_len (e : Ent) : (inC e).length = 4 := rfl
theorem mk_ins (n : Nat) (hn : n ≤ 1000000) (w : World) : (Instr.makeSlice 46 (.int .i64 (n : Int)) (.int .i64 (n : Int))).run Try.prog w = .ok (.slice (some ⟨w.heap.size, 0, none⟩) n n) (w.alloc (.cells (fl inC (List.replicate n noEnt)) 72)) := by
  rw [run_mks (P := Try.prog) (t := 46) (k := 4) (bytes := 24) (z := .agg #[.int .i64 0, .int .i64 0, .bool false, .bool false]) Try.underlying46 (by kernel_rfl) .i64 .i64 n (by omega) (by omega) w]
  rw [show madeCells (Value.agg #[.int .i64 0, .int .i64 0, .bool false, .bool false]).cells (n * 4) = fl inC (List.replicate n noEnt) from made_fl inC_len (by omega) noEnt n rfl]
theorem hi1R : (Try.prog.info? 48).map (·.size) = some 1 := by kernel_rfl
theorem ret_rn {K : Ending → World → Prop} {tmps : Array Value} {w : World} {g : Nat} {cs : Array Value} {v : Value} (hp : tmps.getD 2 undef = .pointer (some ⟨g, 0, none⟩)) (hq : tmps.getD 3 undef = v) (hB : Blk w g 48 cs) (hs : cs.size = 1)
    (hK : K (.returned (.tuple #[.agg cs, v])) w) : bodyPost Try.prog Try.f24 K .ret ⟨tmps, []⟩ w :=
  bodyPost_ret (results_cell_slotM (g := g) (cs := cs) (t := 48) (fr := (0, 0)) rfl _ _ (v := v) (hp := hp) (hq := hq) (hg := hB) (hu := Try.underlying48) (hd := rfl) (hi := by rw [hs]; exact hi1R)) rfl hK
set_option maxHeartbeats 1000000 in
theorem newR_no (n : Int) (w : World) (h : ¬ (4 ≤ n ∧ n ≤ 200)) : Calls Try.prog 24 #[.int .i64 n] w fun e w' => e = .returned (.tuple #[.agg #[.slice none 0 0], .int .i64 22]) ∧ Below w.heap.size w w' := by
  have key : n < 4 ∨ (¬ n < 4 ∧ 200 < n) := by omega
  clear h
  rcases key with h4 | ⟨h4, h5⟩
  · go_enter Try.func24, Try.ntmps24
    go_wp2_with fail
    refine ret_rn (g := w.heap.size) rfl rfl (Blk.new w 48 #[.slice none 0 0]) rfl ⟨rfl, (Below.refl _ _).alloc (Nat.le_refl _) _⟩
  · go_enter Try.func24, Try.ntmps24
    go_wp2_with fail
    refine ret_rn (g := w.heap.size) rfl rfl (Blk.new w 48 #[.slice none 0 0]) rfl ⟨rfl, (Below.refl _ _).alloc (Nat.le_refl _) _⟩
set_option maxHeartbeats 1000000 in
theorem newR_yes (n : Nat) (w : World) (h4 : 4 ≤ n) (h200 : n ≤ 200) :
    Calls Try.prog 24 #[.int .i64 (n : Int)] w fun e w' => ∃ g, e = .returned (.tuple #[.agg #[.slice (some ⟨g, 0, none⟩) n n], .int .i64 0]) ∧ Blk w' g 72 (fl inC (List.replicate n noEnt)) ∧ w.heap.size ≤ g ∧ Below w.heap.size w w' := by
  have k1 := fun w => mk_ins n (by omega) w
  obtain ⟨z, hz⟩ : ∃ z, z = fl inC (List.replicate n noEnt) := ⟨_, rfl⟩
  rw [← hz] at k1 ⊢
  clear hz
  have h5 : ¬ (n : Int) < 4 := by omega
  have h6 : ¬ (200 : Int) < (n : Int) := by omega
  go_enter Try.func24, Try.ntmps24
  go_wp2_with fail
  refine ret_rn (g := w.heap.size) rfl rfl ((Blk.new w 48 #[.slice (some ⟨w.heap.size + 1, 0, none⟩) n n]).alloc _) rfl
    ⟨w.heap.size + 1, rfl, Blk.new' _ _ _ _ (by simp), by omega, ((Below.refl w.heap.size w).alloc (Nat.le_refl _) _).alloc (by simp) _⟩
end Go.Proofs.Ytbmblofhogihdaa
