/- What Tells calls, with what it gives back named. -/
import Derived.Test.YtbmblofhogihdaaMvW
import Derived.Test.YtbmblofhogihdaaMgW
import Derived.Test.YtbmblofhogihdaaConv
namespace Go.Proofs.Ytbmblofhogihdaa
open Go.RowKit

/-- Both maps, in memory. -/
structure TlI (w : World) (m l b d g g1 n c q : Nat) (L : List Ent) (W : World) : Prop where
  im : ImpA W m l b d L (List.replicate q false)
  hg : Blk W g 72 (fl inC L)
  h1 : Blk W g1 48 #[.slice (some ⟨g, 0, none⟩) n c]
  bel : Below w.heap.size w W
theorem TlI.kp {w W W' : World} {m l b d g g1 n c q : Nat} {L : List Ent} (h : TlI w m l b d g g1 n c q L W) (hb : Below W.heap.size W W') : TlI w m l b d g g1 n c q L W' :=
  ⟨h.im.kp hb, h.hg.below hb, h.h1.below hb, h.bel.trans (hb.mono h.bel.size)⟩
theorem TlI.box {w W : World} {m l b d g g1 n c q : Nat} {L : List Ent} (h : TlI w m l b d g g1 n c q L W) : W.cell? ⟨g1, 0, none⟩ = some (.slice (some ⟨g, 0, none⟩) n c) := by
  have := h.h1.cell 0
  simpa using this
theorem busyM_any (m l b d : Nat) (L : List Ent) (D : List Bool) (w : World) (h : ImpA w m l b d L D) (h1 : 1 ≤ L.length) (p : List Nat) (hp : pickI Ent.busy 2 (L.drop 1) = p) :
    Calls Try.prog 12 #[.pointer (some ⟨m, 0, none⟩)] w (NsAns p w) := by
  refine (busy_any m l b d L D w h h1).mono ?_
  rintro e w' ⟨A, n, c, rfl, hS, -, hn, hb⟩
  rw [hp] at hS
  exact ⟨A, n, c, rfl, hS, hn, hb⟩
theorem roomM_any (m l b d : Nat) (L : List Ent) (D : List Bool) (w : World) (h : ImpA w m l b d L D) (h1 : 1 ≤ L.length) (N : Nat) (hN : (L.drop 1).countP Ent.gives = N) :
    Calls Try.prog 9 #[.pointer (some ⟨m, 0, none⟩)] w fun e w' => e = .returned (.int .i64 (N : Int)) ∧ Below w.heap.size w w' := by
  have := room_any m l b d L D w h h1
  rw [hN] at this
  exact this
theorem roomRM_any (w : World) (g n c : Nat) (L : List Ent) (hB : Blk w g 72 (fl inC L)) (hl : L.length = n) (hn : n ≤ 200) (h1 : 1 ≤ n) (N : Nat) (hN : (L.drop 1).countP Ent.gives = N) :
    Calls Try.prog 30 #[.agg #[.slice (some ⟨g, 0, none⟩) n c]] w fun r w' => r = .returned (.int .i64 (N : Int)) ∧ Below w.heap.size w w' := by
  have := roomR_any w g n c L hB hl hn h1
  rw [hN] at this
  exact this
theorem intsM_any (A A' : Option Addr) (n n' c c' B B' : Nat) (l : List Nat) (w : World) (h : Sl w B A n (intsV l)) (h' : Sl w B' A' n' (intsV l)) (hB : B ≤ w.heap.size) (hB' : B' ≤ w.heap.size) (hn : n ≤ 200) :
    Calls Try.prog 28 #[.slice A n c, .slice A' n' c'] w fun e w' => e = .returned (.bool true) ∧ Below w.heap.size w w' := by
  have e : n' = n := by rw [← h.len, ← h'.len]
  subst e
  exact ints_eqM A A' n' c c' B B' l w h h' hB hB' (by omega)
theorem cvtM {f : Value → World → Result Value} (hf : ∀ (A : Option Addr) (n c : Nat) (w : World), (convert 44 9 (.slice A n c)).run Try.prog w = f (.slice A n c) w) {w : World} {B : Nat} {A : Option Addr} {n : Nat} (c : Nat) {l : List UInt8} (h : By w B A n l) : f (.slice A n c) w = .ok (.string (txt l)) w :=
  cv_txt hf Try.underlying44 Try.underlying5 Try.underlying9 c h
theorem ldL_one {n : Nat} {bs : List (List UInt8)} (hn : 1 ≤ n) : ∃ T, ldL n bs n = noEnt :: T := by
  cases h : ldL n bs n with
  | nil => have := ldL_len n bs n; rw [h] at this; simp at this; omega
  | cons e T =>
    have := ldL_get (n := n) bs n (q := 0) (by omega)
    rw [h, if_neg (by omega)] at this
    simp at this
    exact ⟨T, by rw [this]⟩
theorem pick_noEnt (T : List Ent) : pickI Ent.busy 1 (noEnt :: T) = pickI Ent.busy 2 ((noEnt :: T).drop 1) := by
  simp [pickI, noEnt]
theorem ldL_bdn {n : Nat} {bs : List (List UInt8)} (h : ldOk n bs) : ∀ e ∈ ldL n bs n, e.addr < 4096 ∧ e.ver < 65536 := fun e he => by
  obtain ⟨q, hq⟩ := List.getElem?_of_mem he
  have hqn : q < n := by
    have := (List.getElem?_eq_some_iff.1 hq).1
    rwa [ldL_len] at this
  rw [ldL_get bs n hqn, Option.some.injEq] at hq
  subst hq
  split
  · have hqb : q / 8 < bs.length := by rw [h.1]; omega
    have hb := List.getElem?_eq_getElem hqb
    have hm := h.2.1 _ (List.getElem_mem hqb)
    have hat := enE_at hb (show q % 8 < 8 by omega)
    rw [show 8 * (q / 8) + q % 8 = q by omega] at hat
    unfold isM at hm
    obtain ⟨-, h1, -⟩ := of_decide_eq_true hm
    have hmem := List.mem_of_getElem? hat
    have h2 := List.all_eq_true.1 h1 _ hmem
    unfold gdE at h2
    exact ⟨of_decide_eq_true h2, (rdL_bd _ _ hmem).2⟩
  · decide
/-- A list of own rows as an answer. -/
def RwAnsM (K : Nat) (bs : List (List UInt8)) (w : World) (r : Ending) (w' : World) : Prop :=
  ∃ A c rs, r = .returned (.slice A K c) ∧ w'.ownsRow w.heap.size 44 1 (.slice A K c) K (rs.map RowB.v) ∧ rs.map RowB.l = bs ∧ OwR w.heap.size w' rs ∧ Below w.heap.size w w'
def StAnsM (K : Nat) (bs : List (List UInt8)) (w : World) (r : Ending) (w' : World) : Prop :=
  ∃ A c, r = .returned (.slice A K c) ∧ w'.ownsRow w.heap.size 9 1 (.slice A K c) K (strV bs) ∧ Below w.heap.size w w'
theorem blocksM_any (m l b d : Nat) (L : List Ent) (D : List Bool) (w : World) (h : ImpA w m l b d L D) (n K : Nat) (hl : L.length = n) (hn1 : 1 ≤ n) (hK : K = (n + 7) / 8) (hbd : ∀ e ∈ L, e.addr < 4096 ∧ e.ver < 65536) :
    Calls Try.prog 33 #[.pointer (some ⟨m, 0, none⟩)] w (RwAnsM K (bkS L K) w) := by
  have := blocks_any m l b d L D w h (by omega) hbd
  unfold BlAns at this
  rw [hl, ← hK] at this
  exact this
theorem blocksRM_any (w : World) (g n c K : Nat) (L : List Ent) (hB : Blk w g 72 (fl inC L)) (hl : L.length = n) (hn : n ≤ 200) (hK : K = (n + 7) / 8) (hbd : ∀ e ∈ L, e.addr < 4096 ∧ e.ver < 65536) :
    Calls Try.prog 25 #[.agg #[.slice (some ⟨g, 0, none⟩) n c]] w (StAnsM K (bkS L K) w) := by
  have := blocksR_any w g n c L hB hl hn hbd
  unfold BkAns at this
  rw [hl, ← hK] at this
  exact this
theorem bkS_64 {L : List Ent} {K i : Nat} {b : List UInt8} (h : (bkS L K)[i]? = some b) : b.length = 64 := by
  obtain ⟨j, -, rfl⟩ := List.mem_map.1 (List.mem_of_getElem? h)
  rw [mbS_len, chk_len]
/-- One row of them, and its bytes. -/
theorem OwR.at {base base2 n c : Nat} {w : World} {A : Option Addr} {rs : List RowB} {bs : List (List UInt8)} {i : Nat} (O : w.ownsRow base2 44 1 (.slice A n c) n (rs.map RowB.v)) (he : rs.map RowB.l = bs) (hR : OwR base w (rs.drop i)) (hi : i < n) :
    ∃ ga ra rn rc rl, A = some ⟨ga, 0, none⟩ ∧ rs.drop i = ⟨ra, rn, rc, rl⟩ :: rs.drop (i + 1) ∧ bs[i]? = some rl ∧ w.cell? ⟨ga, i, none⟩ = some (.slice ra rn rc) ∧ w.ownsRow base 5 1 (.slice ra rn rc) rn (u8s rl) ∧ rl.length = rn ∧ rn ≤ rc ∧ rc ≤ 9223372036854775807 := by
  obtain ⟨ga, u, cur, hA, -, -, hu, hc, -, -⟩ := own_setM O hi
  rw [List.getElem?_map] at hu
  obtain ⟨⟨ra, rn, rc, rl⟩, hr, rfl⟩ := Option.map_eq_some_iff.1 hu
  obtain ⟨hil, hre⟩ := List.getElem?_eq_some_iff.1 hr
  have hd : rs.drop i = ⟨ra, rn, rc, rl⟩ :: rs.drop (i + 1) := by rw [List.drop_eq_getElem_cons hil, hre]
  have ho := hR.own ⟨ra, rn, rc, rl⟩ (by rw [hd]; exact List.mem_cons_self)
  have ho' : w.ownsRow base 5 1 (.slice ra rn rc) rn (u8s rl) := ho
  obtain ⟨A', c', e, h1, h2⟩ := own_form ho'
  injection e with e1 e2 e3
  subst e3
  refine ⟨ga, ra, rn, rc, rl, hA, hd, ?_, hc, ho', ?_, h1, h2⟩
  · rw [← he, List.getElem?_map, hr]
    rfl
  · have := ho'.1
    rw [u8s_length] at this
    omega
theorem str_at {base n c i : Nat} {w : World} {A : Option Addr} {bs : List (List UInt8)} {b : List UInt8} (O : w.ownsRow base 9 1 (.slice A n c) n (strV bs)) (hi : i < n) (hb : bs[i]? = some b) :
    ∃ gb, A = some ⟨gb, 0, none⟩ ∧ w.cell? ⟨gb, i, none⟩ = some (.string (txt b)) := by
  obtain ⟨gb, u, cur, hA, -, -, hu, hc, -, -⟩ := own_setM O hi
  rw [strV, List.getElem?_map, hb, Option.map_some, Option.some.injEq] at hu
  subst hu
  exact ⟨gb, hA, hc⟩
end Go.Proofs.Ytbmblofhogihdaa
