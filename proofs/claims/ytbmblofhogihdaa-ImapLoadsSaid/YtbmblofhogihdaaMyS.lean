/- Both Loads, side by side. -/
import Derived.Test.YtbmblofhogihdaaMxW
import Derived.Test.YtbmblofhogihdaaImAwakeW
namespace Go.Proofs.Ytbmblofhogihdaa
open Go.RowKit

def NoLd (code : Int) (w : World) (r : Ending) (w' : World) : Prop := r = .returned (.tuple #[.pointer none, .int .i64 code]) ∧ Below w.heap.size w w'
def NoLdR (code : Int) (w : World) (r : Ending) (w' : World) : Prop := r = .returned (.tuple #[.agg #[.slice none 0 0], .int .i64 code]) ∧ Below w.heap.size w w'
def YsLd (L : List Ent) (q : Nat) (w : World) (r : Ending) (w' : World) : Prop := ∃ m l b d, r = .returned (.tuple #[.pointer (some ⟨m, 0, none⟩), .int .i64 0]) ∧ ImpA w' m l b d L (List.replicate q false) ∧ Below w.heap.size w w'
def YsLdR (L : List Ent) (n : Nat) (w : World) (r : Ending) (w' : World) : Prop := ∃ g, r = .returned (.tuple #[.agg #[.slice (some ⟨g, 0, none⟩) n n], .int .i64 0]) ∧ Blk w' g 72 (fl inC L) ∧ Below w.heap.size w w'
theorem both_load (n : Int) (bs : List (List UInt8)) :
    (∃ code : Int, code ≠ 0 ∧ ∀ (A : Option Addr) (m c : Nat) (w : World), BlsAt w A m bs → Calls Try.prog 15 #[.int .i64 n, .slice A m c] w (NoLd code w) ∧ Calls Try.prog 16 #[.int .i64 n, .slice A m c] w (NoLdR code w)) ∨
    (∃ (k : Nat) (L : List Ent), n = (k : Int) ∧ 4 ≤ k ∧ k ≤ 200 ∧ L.length = k ∧ (∀ e ∈ L, e.addr < 4096 ∧ e.ver < 65536) ∧ pickI Ent.busy 1 L = pickI Ent.busy 2 (L.drop 1) ∧
      ∀ (A : Option Addr) (m c : Nat) (w : World), BlsAt w A m bs → Calls Try.prog 15 #[.int .i64 n, .slice A m c] w (YsLd L ((k + 7) / 8) w) ∧ Calls Try.prog 16 #[.int .i64 n, .slice A m c] w (YsLdR L k w)) := by
  by_cases hn : 4 ≤ n ∧ n ≤ 200
  rotate_left
  · refine .inl ⟨22, by decide, fun A m c w _ => ⟨(load_out n w A m c hn).mono ?_, (loadR_out n w A m c hn).mono ?_⟩⟩
    · rintro r w' ⟨rfl, rfl⟩
      exact ⟨rfl, Below.refl _ _⟩
    · rintro r w' ⟨rfl, hb⟩
      exact ⟨rfl, hb⟩
  obtain ⟨k, rfl⟩ : ∃ k : Nat, n = (k : Int) := ⟨n.toNat, by omega⟩
  have h4 : 4 ≤ k := by omega
  have h200 : k ≤ 200 := by omega
  by_cases hok : ldOk k bs
  · refine .inr ⟨k, ldL k bs k, rfl, h4, h200, ldL_len _ _ _, ldL_bdn hok, ?_, fun A m c w hb => ⟨(load_any k w A m c bs h4 h200 hb).mono ?_, (loadR_any k w A m c bs h4 h200 hb).mono ?_⟩⟩
    · obtain ⟨T, hT⟩ := ldL_one (n := k) (bs := bs) (by omega)
      rw [hT]
      exact pick_noEnt T
    · rintro r w' ⟨hbl, ⟨h1, -⟩ | ⟨-, m', l, b, d, rfl, hI, -⟩⟩
      · exact absurd hok h1
      · exact ⟨m', l, b, d, rfl, hI, hbl⟩
    · rintro r w' ⟨hbl, ⟨h1, -⟩ | ⟨-, g, rfl, hB, -⟩⟩
      · exact absurd hok h1
      · exact ⟨g, rfl, hB, hbl⟩
  · refine .inl ⟨100, by decide, fun A m c w hb => ⟨(load_any k w A m c bs h4 h200 hb).mono ?_, (loadR_any k w A m c bs h4 h200 hb).mono ?_⟩⟩
    · rintro r w' ⟨hbl, ⟨-, rfl⟩ | ⟨h1, -⟩⟩
      · exact ⟨rfl, hbl⟩
      · exact absurd h1 hok
    · rintro r w' ⟨hbl, ⟨-, rfl⟩ | ⟨h1, -⟩⟩
      · exact ⟨rfl, hbl⟩
      · exact absurd h1 hok
/-- One more row: an append of a new row of bytes. -/
theorem OwR.next {base k c : Nat} {W W3 W4 : World} {A : Option Addr} {rs : List RowB} {r : RowB} {buf : Array Value} (h : OwR base W rs) (O : W.ownsRow base 44 1 (.slice A k c) k (rs.map RowB.v)) (hB : base ≤ W.heap.size)
    (hb : Below W.heap.size W W3) (ho : W3.ownsRow W.heap.size 5 1 r.v r.n (u8s r.l)) (r2 : (W3.alloc (.cells buf 44)).grownBy W4 (Value.slice A k c).ownBlock) :
    OwR base W4 (rs ++ [r]) ∧ ∀ (w : World), w.heap.size ≤ base → Below w.heap.size w W → Below w.heap.size w W4 := by
  have hb2 : Below W.heap.size W (W3.alloc (.cells buf 44)) := hb.alloc hb.size _
  have O2 := own_bel O hb2
  have lr : ∀ g, (Value.slice A k c).ownBlock = some g → base ≤ g := fun g hg => (own_blkTM O2 hg).1
  have R2 := (h.bel hb2).add hB (fun q hq g hg => (h.lt q hq g hg).2) (r := r) (own_bel ho ((Below.refl _ W3).alloc (Nat.le_refl _) _))
  refine ⟨R2.gr O2 r2, fun w hw hbw => bel_gr (hbw.trans (hb2.mono hbw.size)) r2 (fun g e => by have := lr g e; omega) (Nat.le_trans hbw.size hb2.size)⟩
/-- The maps stay while a row of bytes is written. -/
theorem ImpA.kpU {W W' : World} {m l b d : Nat} {L : List Ent} {D : List Bool} (h : ImpA W m l b d L D) {gs : List Nat} (hk : Kp gs W W') (hg : ∀ g ∈ gs, ∃ cs, Blk W g 5 cs) : ImpA W' m l b d L D := by
  refine Kp.imp h hk ?_ ?_ ?_ ?_
  all_goals
    intro hm
    obtain ⟨cs, hB⟩ := hg _ hm
  · have := blk_typeM hB h.hm; revert this; decide
  · have := blk_typeM hB h.hl; revert this; decide
  · have := blk_typeM hB h.hb; revert this; decide
  · have := blk_typeM hB h.hd; revert this; decide
theorem Blk.kpU {W W' : World} {g0 : Nat} {t : TypeId} {cs0 : Array Value} (h : Blk W g0 t cs0) {gs : List Nat} (hk : Kp gs W W') (hg : ∀ g ∈ gs, ∃ cs, Blk W g 5 cs) (ht : 5 ≠ t) : Blk W' g0 t cs0 :=
  h.kp hk (fun hm => by
    obtain ⟨cs, hB⟩ := hg _ hm
    exact ht (blk_typeM hB h))
end Go.Proofs.Ytbmblofhogihdaa
