/- The walk of (*imap.Map).Blocks. -/
import Derived.Test.YtbmblofhogihdaaMvS
namespace Go.Proofs.Ytbmblofhogihdaa
open Go.RowKit Go.Shelf
set_option maxRecDepth 100000
attribute [local go_sem] Oper.semAt_some

theorem keeps_belM {W W' : World} (h : Below W.heap.size W W') : KeepsOthers W W' :=
  ⟨h.size, fun k o ho _ => (h.block k (Array.getElem?_eq_some_iff.1 ho).1).trans ho⟩
theorem OwR.gro {base : Nat} {W W' : World} {rs : List RowB} {row : Option Nat} (h : OwR base W rs) (hg : W.grownBy W' row) (hn : ∀ g t cs, Blk W g t cs → some g ≠ row) : OwR base W' rs :=
  ⟨fun r hr => own_gr (h.own r hr) hg (fun g hgb => by
    obtain ⟨-, -, cs, hB⟩ := own_blkTM (h.own r hr) hgb
    exact hn g _ _ hB), h.ne⟩
/-- What is known when these pieces have come. -/
structure BkI (w : World) (B g3 l : Nat) (L : List Ent) (bs : List (List UInt8)) (k : Nat) (A : Option Addr) (c : Nat) (rs : List RowB) (W : World) : Prop where
  h3 : Blk W g3 43 #[.slice A k c]
  o : W.ownsRow B 44 1 (.slice A k c) k (rs.map RowB.v)
  r : OwR B W rs
  e : rs.map RowB.l = bs
  hl : Blk W l 59 (fl entC L)
  b : Below w.heap.size w W
  s : B ≤ W.heap.size
theorem BkI.gro {w W W' : World} {B g3 l k c : Nat} {L : List Ent} {bs : List (List UInt8)} {A : Option Addr} {rs : List RowB} {row : Option Nat} (h : BkI w B g3 l L bs k A c rs W) (hw : w.heap.size ≤ B) (hg : W.grownBy W' row)
    (hrow : ∀ g, row = some g → B ≤ g ∧ ∃ o, W.heap[g]? = some o ∧ o.isCells = false) : BkI w B g3 l L bs k A c rs W' := by
  have hnc : ∀ g t cs, Blk W g t cs → some g ≠ row := fun g t cs hb e => by
    obtain ⟨-, o, ho, hoc⟩ := hrow g e.symm
    have : some o = some (Obj.cells cs t) := ho.symm.trans hb
    injection this with this
    subst this
    cases hoc
  exact ⟨blk_gr h.h3 hg (hnc _ _ _ h.h3), own_gr h.o hg (fun g hgb => by
    obtain ⟨-, -, cs, hB⟩ := own_blkTM h.o hgb
    exact hnc g _ _ hB), h.r.gro hg hnc, h.e, blk_gr h.hl hg (hnc _ _ _ h.hl), bel_gr h.b hg (fun g e => Nat.le_trans hw (hrow g e).1) h.b.size, Nat.le_trans h.s hg.size⟩
/-- One more row. -/
theorem BkI.next {w W W3 W4 : World} {B g3 l k c s c' : Nat} {L : List Ent} {bs : List (List UInt8)} {A A' : Option Addr} {rs : List RowB} {r : RowB} {buf : Array Value} (h : BkI w B g3 l L bs k A c rs W)
    (hw : w.heap.size ≤ B ∧ w.heap.size ≤ g3) (hlt : g3 < B ∧ l < B ∧ s + 1 < B) (hne : g3 ≠ l ∧ g3 ≠ s ∧ g3 ≠ s + 1) (hb : Below W.heap.size W W3) (ho : W3.ownsRow W.heap.size 5 1 r.v r.n (u8s r.l))
    (r1 : W4.ownsRow B 44 1 (.slice A' (k + 1) c') (k + 1) (rs.map RowB.v ++ [r.v])) (r2 : (W3.alloc (.cells buf 44)).grownBy W4 (Value.slice A k c).ownBlock) :
    BkI w B g3 l L (bs ++ [r.l]) (k + 1) A' c' (rs ++ [r]) (W4.setCell ⟨g3, 0, none⟩ (.slice A' (k + 1) c')) ∧ KeepsOthers W (W4.setCell ⟨g3, 0, none⟩ (.slice A' (k + 1) c')) ∧ KpS [s, s + 1] W (W4.setCell ⟨g3, 0, none⟩ (.slice A' (k + 1) c')) := by
  have hb2 : Below W.heap.size W (W3.alloc (.cells buf 44)) := hb.alloc hb.size _
  have hs2 := Nat.le_trans h.s hb2.size
  have O2 := own_bel h.o hb2
  have lr : ∀ g, (Value.slice A k c).ownBlock = some g → B ≤ g := fun g hg => (own_blkTM O2 hg).1
  have lr2 : ∀ g, (Value.slice A' (k + 1) c').ownBlock = some g → B ≤ g := fun g hg => (own_blkTM r1 hg).1
  have R2 := (h.r.bel hb2).add h.s (fun q hq g hg => (h.r.lt q hq g hg).2) (r := r) (own_bel ho ((Below.refl _ W3).alloc (Nat.le_refl _) _))
  have R3 := R2.gr O2 r2
  have X3 := blk_gr (h.h3.below hb2) r2 (fun e => by have := lr g3 e.symm; omega)
  have XL := blk_gr (h.hl.below hb2) r2 (fun e => by have := lr l e.symm; omega)
  have hk : Kp [g3] W4 (W4.setCell ⟨g3, 0, none⟩ (.slice A' (k + 1) c')) := (Kp.refl [g3] W4).set (p := ⟨g3, 0, none⟩) (.inl (by simp)) _
  refine ⟨⟨?_, ?_, ?_, ?_, ?_, ?_, ?_⟩, ?_, ?_⟩
  · have := X3.set 0 (.slice A' (k + 1) c')
    simpa using this
  · rw [List.map_append]
    exact own_kq r1 hk (fun g hg => by have := lr2 g hg; simp; omega)
  · exact R3.kp hk (fun q hq g hg => by have := (R3.lt q hq g hg).1; simp; omega)
  · rw [List.map_append, h.e]
    rfl
  · exact XL.far (p := ⟨g3, 0, none⟩) (fun e => hne.1 e.symm) _
  · exact (bel_gr (h.b.trans (hb2.mono h.b.size)) r2 (fun g e => by have := lr g e; omega) (Nat.le_trans h.b.size hb2.size)).setCell (p := ⟨g3, 0, none⟩) hw.2 _
  · rw [World.size_setCell]
    exact Nat.le_trans hs2 r2.size
  · refine ((keeps_belM hb2).trans (KeepsOthers.of_grownBy r2 (fun g o e hg => ?_))).trans (KeepsOthers.setCell _ _ _)
    obtain ⟨-, -, cs, hB⟩ := own_blkTM O2 e
    have h6 : some o = some (Obj.cells cs 44) := hg.symm.trans hB
    injection h6 with h6
    subst h6
    rfl
  · intro g hg
    have hgl : g < B ∧ g ≠ g3 := by
      simp only [List.mem_cons, List.not_mem_nil, or_false] at hg
      omega
    rw [hk.block g (Nat.lt_of_lt_of_le hgl.1 (Nat.le_trans hs2 r2.size)) (by simp; exact hgl.2)]
    rw [r2.block g (Nat.lt_of_lt_of_le hgl.1 hs2) (fun e => by have := lr g e.symm; omega)]
    exact hb2.block g (Nat.lt_of_lt_of_le hgl.1 h.s)
/-- Blocks' answer. -/
def BlAns (L : List Ent) (w : World) (r : Ending) (w' : World) : Prop :=
  ∃ A c rs, r = .returned (.slice A ((L.length + 7) / 8) c) ∧ w'.ownsRow w.heap.size 44 1 (.slice A ((L.length + 7) / 8) c) ((L.length + 7) / 8) (rs.map RowB.v) ∧ rs.map RowB.l = bkS L ((L.length + 7) / 8) ∧ OwR w.heap.size w' rs ∧ Below w.heap.size w w'
theorem hszE : (Try.prog.info? 59).map (·.size) = some 2 := by kernel_rfl
theorem hi16E : (Try.prog.info? 61).map (·.size) = some 16 := by kernel_rfl
theorem etyR : Ety Try.prog 43 44 (.slice none 0 0) 24 := Ety.mk' Try.underlying43 (by kernel_rfl) rfl (by decide)
theorem sl_newM (w : World) (v : Value) (t : TypeId) : Sl (w.alloc (.cells #[v] t)) (w.heap.size + 1) (some ⟨w.heap.size, 0, none⟩) 1 [v] := by
  refine ⟨rfl, fun i u hu => ⟨_, rfl, by simp, ?_⟩⟩
  rw [Addr.add_mid, Nat.zero_add, (Blk.new w _ _).cell]
  simpa using hu
set_option maxHeartbeats 4000000 in
theorem blocks_any (m l b d : Nat) (L : List Ent) (D : List Bool) (w : World) (h : ImpA w m l b d L D) (hn1 : 1 ≤ L.length) (hbd : ∀ e ∈ L, e.addr < 4096 ∧ e.ver < 65536) :
    Calls Try.prog 33 #[.pointer (some ⟨m, 0, none⟩)] w (BlAns L w) := by
  obtain ⟨n, hn⟩ : ∃ n, n = L.length := ⟨_, rfl⟩
  obtain ⟨K, hK⟩ : ∃ K, K = (n + 7) / 8 := ⟨_, rfl⟩
  have hn2 := h.n
  obtain ⟨c0, -, -⟩ := imp_cells h
  rw [← hn] at c0 hn1 hn2
  have HL0 := hide h.hl
  have HN := hide hn
  have HK := hide hK
  have HBD := hide hbd
  have HK2 := hide (show n ≤ 8 * K ∧ 8 * K < n + 8 by omega)
  have hm := h.hm.lt
  clear h hn hK hbd
  refine (callsIn_wide (n := 8)).1 ?_
  refine callsIn_of_wp_marks Try.func33 rfl trivial ?_ rfl
  simp only [Try.ntmps33, List.size_toArray, List.length_cons, List.length_nil, Nat.reduceAdd, Nat.reduceSub, Array.replicate_succ, Array.replicate_zero, List.push_toArray, List.append_toArray, List.nil_append, List.cons_append]
  refine wpIn_wide.2 ?_
  go_upto_region 2 with fail
  obtain ⟨w1, hw⟩ : ∃ W, W = w.alloc (.cells #[.slice none 0 0] 43) := ⟨_, rfl⟩
  have X3 := hide (show Blk w1 w.heap.size 43 #[.slice none 0 0] by rw [hw]; exact Blk.new _ _ _)
  replace HL0 := hide (show Blk w1 l 59 (fl entC L) by rw [hw]; exact HL0.out.alloc _)
  have BW := hide (show Below w.heap.size w w1 by rw [hw]; exact (Below.refl _ _).alloc (Nat.le_refl _) _)
  have c0' : w1.cell? ⟨m, 0, none⟩ = _ := (BW.out.cell (p := ⟨m, 0, none⟩) hm).trans c0
  rw [← hw]
  obtain ⟨g3, hg3⟩ : ∃ k, k = w.heap.size := ⟨_, rfl⟩
  rw [← hg3] at X3 ⊢
  have G3 := hide (show w.heap.size ≤ g3 by omega)
  clear hw hg3 c0 hm
  go_wp2_with fail
  refine (chunkE_any (some ⟨l, 0, none⟩) n n w1).mono ?_
  rintro r w2 ⟨rfl, hw2⟩
  have hb2 : Below w1.heap.size w1 w2 := by rw [hw2]; exact ((Below.refl _ _).alloc (Nat.le_refl _) _).alloc (by simp) _
  have hs2 : w2.heap.size = w1.heap.size + 2 := by rw [hw2]; simp
  have ks := (Blk.new w1 53 #[.slice (some ⟨l, 0, none⟩) n n]).alloc (.cells #[.int .i64 (8 : Int)] 3)
  have kp := Blk.new (w1.alloc (.cells #[.slice (some ⟨l, 0, none⟩) n n] 53)) 3 #[.int .i64 (8 : Int)]
  rw [World.size_alloc] at kp
  have KS := hide (show Blk w2 w1.heap.size 53 #[.slice (some ⟨l, 0, none⟩) n n] from by rw [hw2]; exact ks)
  have KP := hide (show Blk w2 (w1.heap.size + 1) 3 #[.int .i64 (8 : Int)] from by rw [hw2]; exact kp)
  have LT := hide (show g3 < w1.heap.size ∧ l < w1.heap.size from ⟨X3.out.lt, HL0.out.lt⟩)
  have NE := hide (show g3 ≠ l from fun e => by
    subst e
    have := blk_typeM X3.out HL0.out
    revert this
    decide)
  replace X3 := hide (X3.out.below hb2)
  replace HL0 := hide (HL0.out.below hb2)
  replace BW := hide (BW.out.trans (hb2.mono BW.out.size))
  have HS := hide hs2
  clear hw2 hb2 ks kp hs2 c0'
  generalize w1.heap.size = s at *
  go_wp2_with fail
  have HS2 := hide (show g3 < w2.heap.size ∧ l < w2.heap.size ∧ s + 1 < w2.heap.size ∧ g3 ≠ s ∧ g3 ≠ s + 1 by
    have h1 := HS.out
    have h2 := LT.out
    omega)
  refine (wpIn_wide (n := 8)).1 ?_
  generalize ha : ({ tmps := _, defers := _ } : Act) = a
  refine wpIn_rangeFunc_ownG (a := a) rfl (by decide) (gf := 41) (lb := #[.pointer (some ⟨s, 0, none⟩), .pointer (some ⟨s + 1, 0, none⟩)]) (by rw [← ha]; rfl) trivial (enters_of Try.func41 (by kernel_rfl) rfl)
    (chunkE_stops 7 (by decide) s (s + 1) l n K (by omega) HK2.out w2 (by have := HS2.out; omega) (by have := HS2.out; omega) (KS.out.cell 0) (KP.out.cell 0))
    KpS.trans (KpS.put (by intro g hg; have := HS2.out; simp only [List.mem_cons, List.not_mem_nil, or_false] at hg; omega)) (Below.refl _ _) (fun _ => rfl)
    (fun pre W => ∃ A c rs, BkI w w2.heap.size g3 l L (pre.map fun x => mbS (chk L (8 * x.1))) pre.length A c rs W)
    (fun _ _ _ => False) ?hI (fun _ _ _ _ _ hs _ _ => hs)
    ⟨none, 0, [], X3.out, World.ownsRow_nil _ _ _ _, OwR.nil, rfl, HL0.out, BW.out, Nat.le_refl _⟩
    (fun x => { tmps := (a.tmps.setIfInBounds 13 (pcV l n x.1)).setIfInBounds 4 (pcV l n x.1), defers := [] }) ?assign ?body ?done ?stop
  case hI =>
    rintro pre W W' row ⟨A, c, rs, hI⟩ hg hrow
    exact ⟨A, c, rs, hI.gro BW.out.size hg hrow⟩
  case assign =>
    intro l x W K hK
    subst ha
    simp only [List.setIfInBounds_toArray, List.set_cons_zero, List.set_cons_succ] at hK
    gi_wp2
    exact hK
  case body =>
    rintro l0 pre x W ⟨A, c, rs, hI⟩ hlen
    subst ha
    simp only [List.setIfInBounds_toArray, List.set_cons_zero, List.set_cons_succ]
    have I0 := hide hI
    have hB := hide (chk_bd HBD.out (8 * x.1))
    obtain ⟨hb1, hb2, hb3⟩ := pcL_bd HK2.out.2 x.2
    have hh8 : pcL n x.1 = 8 ∨ L.length ≤ 8 * x.1 + pcL n x.1 := by
      rw [← HN.out]
      unfold pcL
      split <;> omega
    have hb4 : 8 * x.1 + pcL n x.1 ≤ L.length := by rw [← HN.out]; exact hb3
    have hpc : pcV l n x.1 = .slice (some ⟨l, 8 * x.1 * 2, none⟩) (pcL n x.1) (pcL n x.1) := rfl
    rw [hpc]
    obtain ⟨h, hh⟩ : ∃ h, h = pcL n x.1 := ⟨_, rfl⟩
    rw [← hh] at hb1 hb2 hh8 hb4 ⊢
    have HG := hide (And.intro (pcC_len L x.1 h hb2) (And.intro (pcC_get L x.1 h hb2 hb4) (pcC_all L x.1 h hb2 hh8)))
    have HMI := hide (show h = Nat.min h 8 from (Nat.min_eq_left hb2).symm)
    have HH8 := hide hb2
    have hk25 : pre.length ≤ 25 := by have := HK2.out; omega
    obtain ⟨k, hk⟩ : ∃ k, k = pre.length := ⟨_, rfl⟩
    have HKL := hide hk
    rw [← hk] at I0 hk25
    obtain ⟨o8, ho8⟩ : ∃ o, o = 8 * x.1 * 2 := ⟨_, rfl⟩
    have HO8 := hide ho8
    rw [← ho8] at HG ⊢
    clear hI hlen hb1 hb3 hb4 hh8 hh hk ho8 hpc hb2
    have hcp : ∀ ty, (Builtin.copy_ #[53, 53] ty #[.slice (some ⟨W.heap.size, 0, none⟩) 8 8, .slice (some ⟨l, o8, none⟩) h h]).run Try.prog (W.alloc (.cells #[.int .i64 0, .int .i64 0, .int .i64 0, .int .i64 0, .int .i64 0, .int .i64 0, .int .i64 0, .int .i64 0, .int .i64 0, .int .i64 0, .int .i64 0, .int .i64 0, .int .i64 0, .int .i64 0, .int .i64 0, .int .i64 0] 61)) = _ := fun ty =>
      run_copy_rowM (P := Try.prog) (W.alloc (.cells #[.int .i64 0, .int .i64 0, .int .i64 0, .int .i64 0, .int .i64 0, .int .i64 0, .int .i64 0, .int .i64 0, .int .i64 0, .int .i64 0, .int .i64 0, .int .i64 0, .int .i64 0, .int .i64 0, .int .i64 0, .int .i64 0] 61)) 53 53 ty 59 W.heap.size 0 8 8 ⟨l, o8, none⟩ h h #[.int .i64 0, .int .i64 0, .int .i64 0, .int .i64 0, .int .i64 0, .int .i64 0, .int .i64 0, .int .i64 0, .int .i64 0, .int .i64 0, .int .i64 0, .int .i64 0, .int .i64 0, .int .i64 0, .int .i64 0, .int .i64 0] 61 (pcC L x.1 h) 2 h Try.underlying53 hszE (Blk.new _ _ _) HMI.out HG.out.1
        (fun j v hv => by
          rw [Addr.add_mid]
          have := HG.out.2.1 j v hv
          rw [← (I0.out.hl.alloc (.cells #[.int .i64 0, .int .i64 0, .int .i64 0, .int .i64 0, .int .i64 0, .int .i64 0, .int .i64 0, .int .i64 0, .int .i64 0, .int .i64 0, .int .i64 0, .int .i64 0, .int .i64 0, .int .i64 0, .int .i64 0, .int .i64 0] 61)).cell] at this
          exact this)
        (by have := HH8.out; rw [HG.out.1]; simp; omega) (pcC_one L x.1 h)
    obtain ⟨W2, hW⟩ : ∃ V, V = (W.alloc (.cells #[.int .i64 0, .int .i64 0, .int .i64 0, .int .i64 0, .int .i64 0, .int .i64 0, .int .i64 0, .int .i64 0, .int .i64 0, .int .i64 0, .int .i64 0, .int .i64 0, .int .i64 0, .int .i64 0, .int .i64 0, .int .i64 0] 61)).setRow W.heap.size ((#[.int .i64 0, .int .i64 0, .int .i64 0, .int .i64 0, .int .i64 0, .int .i64 0, .int .i64 0, .int .i64 0, .int .i64 0, .int .i64 0, .int .i64 0, .int .i64 0, .int .i64 0, .int .i64 0, .int .i64 0, .int .i64 0] : Array Value).toList.take 0 ++ pcC L x.1 h ++ (#[.int .i64 0, .int .i64 0, .int .i64 0, .int .i64 0, .int .i64 0, .int .i64 0, .int .i64 0, .int .i64 0, .int .i64 0, .int .i64 0, .int .i64 0, .int .i64 0, .int .i64 0, .int .i64 0, .int .i64 0, .int .i64 0] : Array Value).toList.drop (0 + (pcC L x.1 h).length)).toArray := ⟨_, rfl⟩
    have XG := hide (show Blk W2 W.heap.size 61 (fl meC (chk L (8 * x.1))) by
      rw [hW, ← HG.out.2.2]
      exact setRow_heap _ _ _ _ _ _ (Blk.new _ _ _))
    have BB := hide (show Below W.heap.size W W2 by rw [hW]; exact below_setRow ((Below.refl _ _).alloc (Nat.le_refl _) _) (Nat.le_refl _) _)
    rw [← hW] at hcp
    have MB := hide (mapblock_any W2 (chk L (8 * x.1)) (chk_len L _) hB.out.1)
    obtain ⟨cs, hcs⟩ : ∃ cs, cs = fl meC (chk L (8 * x.1)) := ⟨_, rfl⟩
    have HSZ := hide (show (Try.prog.info? 61).map (·.size) = some cs.size by rw [hcs, fl_size meC_len, chk_len]; exact hi16E)
    rw [← hcs] at XG MB
    clear hW hcs
    gi_wp2_with (first
      | (refine wpListIn_load_rowM rfl 61 (.tmp 5) rfl W.heap.size rfl 61 cs (0, 0) _ XG.out Try.underlying61 rfl HSZ.out ?_)
      | (refine ⟨trivial, ?_⟩
         gi_at_call 35
         refine (CallsIn.inRound l0 (callsIn_wide.2 MB.out)).mono ?_
         rintro r W3 hr
         unfold AllAns at hr
         rw [if_pos hB.out.2, chk_len] at hr
         obtain ⟨A7, c7, rfl, ho7, hb7⟩ := hr
         have O7 := hide ho7
         have B3 := hide (BB.out.trans (hb7.mono BB.out.size))
         have y3 := (I0.out.h3.below B3.out).cell 0
         simp only [List.getElem?_toArray, List.getElem?_cons_zero] at y3
         clear ho7 hb7 MB XG)
      | (gi_at_builtin
         refine wpListIn_appM rfl (.tmp 22) (.tmp 24) _ rfl etyR w2.heap.size (.slice A k c) k _ rfl (own_bel (own_bel I0.out.o B3.out) ((Below.refl _ _).alloc (Nat.le_refl _) _)) (W3.heap.size + 1) (some ⟨W3.heap.size, 0, none⟩) 1 1 [.slice A7 64 c7] rfl ?_ (by intro u hu; rw [List.mem_singleton.1 hu]; rfl) (by omega) (Nat.le_trans I0.out.s (Nat.le_trans B3.out.size (by simp))) ?_
         · exact sl_newM _ _ _
         intro A' c' W4 r1 r2 _
         have X4 := blk_gr ((I0.out.h3.below B3.out).alloc _) r2 (fun e => by have h1 := (own_blkTM (own_bel I0.out.o B3.out) e.symm).1; have h2 := HS2.out.1; omega)
         have c3 := X4.cell 0
         have f3 := X4.frozen 0
         simp only [List.getElem?_toArray, List.getElem?_cons_zero] at c3
         have NX := hide (BkI.next I0.out ⟨BW.out.size, G3.out⟩ ⟨HS2.out.1, HS2.out.2.1, HS2.out.2.2.1⟩ ⟨NE.out, HS2.out.2.2.2.1, HS2.out.2.2.2.2⟩ B3.out (r := ⟨A7, 64, c7, mbS (chk L (8 * x.1))⟩) (own_bq O7.out BB.out.size) r1 r2)
         clear r1 r2 X4 y3))
    have hl := HKL.out
    refine ⟨NX.out.2.1.from _, NX.out.2.2, A', c', rs ++ [⟨A7, 64, c7, mbS (chk L (8 * x.1))⟩], ?_⟩
    rw [List.map_append, List.length_append, List.length_singleton, ← hl]
    exact NX.out.1
  case done =>
    rintro D ys W hD hys ⟨A, c, rs, hI⟩ hK
    subst ha
    have hlen : ys.length = K := by have := congrArg List.length hys; simpa using this
    have hbs : (ys.map fun x => mbS (chk L (8 * x.1))) = bkS L K := by
      rw [bkS, ← hys, List.map_map]
      rfl
    rw [hlen, hbs] at hI
    have c3 := hI.h3.cell 0
    simp only [List.getElem?_toArray, List.getElem?_cons_zero] at c3
    have HI := hide hI
    clear hI hlen hbs
    go_wp2_with fail
    refine ⟨by simp, .inl ⟨_, _, rfl, run_takeDeferred hK, ?_⟩⟩
    have hKK := HK.out
    rw [HN.out] at hKK
    refine ⟨_, results_tmp rfl _ _ _, A, c, rs, ?_⟩
    rw [← hKK]
    exact ⟨rfl, own_bq (ownsRow_putObj HI.out.o _ hK rfl) BW.out.size, HI.out.e, ⟨fun r hr => own_bq (ownsRow_putObj (HI.out.r.own r hr) _ hK rfl) BW.out.size, HI.out.r.ne⟩, HI.out.b.trans (belowK_b (w := w) (Nat.le_refl _) W D _ _ (Nat.le_trans BW.out.size hD) hK rfl rfl)⟩
  case stop =>
    rintro D c pre W _ _ h _
    exact h.elim
end Go.Proofs.Ytbmblofhogihdaa
