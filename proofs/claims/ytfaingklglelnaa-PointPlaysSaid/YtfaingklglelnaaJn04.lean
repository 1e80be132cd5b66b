import Derived.Test.YtfaingklglelnaaJn03
import Derived.Deep.DrawnRows
/- The reference's disk in memory; step, Arm. -/
namespace Go.Proofs.Ytfaingklglelnaa
open Go.RowKit

/-- Blocks as texts; writes as their numbers and texts. -/
def strC (l : List (List UInt8)) : List Value := l.map fun b => .string (txt b)
def wsC (q : List (Nat × List UInt8)) : List Value := q.flatMap fun x => [.int .i64 (x.1 : Int), .string (txt x.2)]
def refV (As : Option Addr) (cs : Nat) (Aq : Option Addr) (cq : Nat) (D : Dsk) : Array Value := #[.slice As D.sure.length cs, .slice Aq D.queue.length cq, .int .i64 (D.steps : Int), .int .i64 D.left]
theorem ob (A : Option Addr) (n c : Nat) : (Value.slice A n c).ownBlock = (Value.slice A 0 0).ownBlock := by cases A <;> rfl
/-- The reference's disk: its texts and its writes lie in rows above base. -/
structure RefM (w : World) (base : Nat) (As : Option Addr) (cs : Nat) (Aq : Option Addr) (cq : Nat) (D : Dsk) : Prop where
  s : w.ownsRow base 9 1 (.slice As D.sure.length cs) D.sure.length (strC D.sure)
  q : w.ownsRow base 104 2 (.slice Aq D.queue.length cq) D.queue.length (wsC D.queue)
  ok : D.Ok
theorem own_kp {w w' : World} {base n k : Nat} {e : TypeId} {v : Value} {xs : List Value} (h : w.ownsRow base e k v n xs) {gs : List Nat} (hk : Kp gs w w') (hv : ∀ g, v.ownBlock = some g → g ∉ gs) : w'.ownsRow base e k v n xs := by
  refine ⟨h.1, ?_⟩
  rcases h.2 with h0 | ⟨g, cap, cur, rfl, h2, h3, h4⟩
  · exact .inl h0
  · exact .inr ⟨g, cap, cur, rfl, h2, Blk.kp h3 hk (hv g rfl), h4⟩
section
variable {w w' : World} {base cs cq : Nat} {As Aq : Option Addr} {D : Dsk}
theorem RefM.kp (h : RefM w base As cs Aq cq D) {gs : List Nat} (hk : Kp gs w w') (hs : ∀ g, (Value.slice As 0 0).ownBlock = some g → g ∉ gs) (hq : ∀ g, (Value.slice Aq 0 0).ownBlock = some g → g ∉ gs) : RefM w' base As cs Aq cq D :=
  ⟨own_kp h.s hk (fun g hg => hs g (by rw [← hg]; exact (ob _ _ _).symm)), own_kp h.q hk (fun g hg => hq g (by rw [← hg]; exact (ob _ _ _).symm)), h.ok⟩
theorem RefM.below (h : RefM w base As cs Aq cq D) (hb : Below w.heap.size w w') : RefM w' base As cs Aq cq D := h.kp (Kp.of_below (gs := []) hb) (by simp) (by simp)
theorem RefM.sLt (h : RefM w base As cs Aq cq D) : ∀ g, (Value.slice As 0 0).ownBlock = some g → base ≤ g ∧ g < w.heap.size := fun g hg => h.s.lt g (by rw [← hg]; exact ob _ _ _)
theorem RefM.qLt (h : RefM w base As cs Aq cq D) : ∀ g, (Value.slice Aq 0 0).ownBlock = some g → base ≤ g ∧ g < w.heap.size := fun g hg => h.q.lt g (by rw [← hg]; exact ob _ _ _)
/-- Only the numbers turn. -/
theorem RefM.to {D' : Dsk} (h : RefM w base As cs Aq cq D) (e1 : D'.sure = D.sure) (e2 : D'.queue = D.queue) (ok : D'.Ok) : RefM w base As cs Aq cq D' := by
  refine ⟨?_, ?_, ok⟩
  · rw [e1]; exact h.s
  · rw [e2]; exact h.q
end
theorem Dsk.Ok.stepped {D : Dsk} (h : D.Ok) (hs : D.steps < 1000000) : D.stepped.Ok :=
  { h with l := by have := h.l; show -1 ≤ max (D.left - 1) (-1) ∧ max (D.left - 1) (-1) ≤ 9223372036854775807; omega, s := by show D.steps + 1 ≤ 1000000; omega }

theorem rstep_dead (As : Option Addr) (cs : Nat) (Aq : Option Addr) (cq : Nat) (D : Dsk) (w : World) (hl : D.left = 0) :
    Calls Try.prog 48 #[.agg (refV As cs Aq cq D)] w fun e w' => e = .returned (.tuple #[.agg (refV As cs Aq cq D), .bool false]) ∧ Below w.heap.size w w' := by
  unfold refV
  rw [hl]
  go_enter Try.func48, Try.ntmps48
  go_wp2_with fail
  exact bodyPost_ret (v := .tuple #[.agg _, _]) (by simp [results, Try.results48, go_sem]) rfl ⟨rfl, ((Below.refl _ _).alloc (Nat.le_refl _) _).alloc (by simp) _⟩
theorem rstep_ok (As : Option Addr) (cs : Nat) (Aq : Option Addr) (cq : Nat) (D : Dsk) (w : World) (hl : D.left ≠ 0) (ok : D.Ok) (hs : D.steps < 1000000) :
    Calls Try.prog 48 #[.agg (refV As cs Aq cq D)] w fun e w' => e = .returned (.tuple #[.agg (refV As cs Aq cq D.stepped), .bool true]) ∧ Below w.heap.size w w' := by
  unfold refV Dsk.stepped
  obtain ⟨l1, l2⟩ := ok.l
  have hl' : (D.left == 0) = false := by simpa using hl
  generalize D.left = lf at *
  clear hl ok
  by_cases h0 : 0 < lf
  · have em : Hid (max (lf - 1) (-1) = lf - 1) := hide (by omega)
    go_enter Try.func48, Try.ntmps48
    go_wp2_with fail
    exact bodyPost_ret (v := .tuple #[.agg #[.slice As D.sure.length cs, .slice Aq D.queue.length cq, .int .i64 ((D.steps : Int) + 1), .int .i64 (lf - 1)], .bool true]) (by simp [results, Try.results48, go_sem]) rfl ⟨by rw [em.out]; first | done | rfl, ((Below.refl _ _).alloc (Nat.le_refl _) _).alloc (by simp) _⟩
  · have em : Hid (max (lf - 1) (-1) = lf) := hide (by
      have : lf ≠ 0 := by simpa using hl'
      omega)
    go_enter Try.func48, Try.ntmps48
    go_wp2_with fail
    exact bodyPost_ret (v := .tuple #[.agg #[.slice As D.sure.length cs, .slice Aq D.queue.length cq, .int .i64 ((D.steps : Int) + 1), .int .i64 lf], .bool true]) (by simp [results, Try.results48, go_sem]) rfl ⟨by rw [em.out]; first | done | rfl, ((Below.refl _ _).alloc (Nat.le_refl _) _).alloc (by simp) _⟩
theorem rarm_no (As : Option Addr) (cs : Nat) (Aq : Option Addr) (cq : Nat) (D : Dsk) (n : Int) (w : World) (hn : n < 0) :
    Calls Try.prog 29 #[.agg (refV As cs Aq cq D), .int .i64 n] w fun e w' => e = .returned (.tuple #[.agg (refV As cs Aq cq D), .int .i64 22]) ∧ Below w.heap.size w w' := by
  unfold refV
  go_enter Try.func29, Try.ntmps29
  go_wp2_with fail
  exact bodyPost_ret (v := .tuple #[.agg _, _]) (by simp [results, Try.results29, go_sem]) rfl ⟨rfl, ((Below.refl _ _).alloc (Nat.le_refl _) _).alloc (by simp) _⟩
theorem rarm_dead (As : Option Addr) (cs : Nat) (Aq : Option Addr) (cq : Nat) (D : Dsk) (n : Int) (w : World) (hn : ¬ n < 0) (hl : D.left = 0) :
    Calls Try.prog 29 #[.agg (refV As cs Aq cq D), .int .i64 n] w fun e w' => e = .returned (.tuple #[.agg (refV As cs Aq cq D), .int .i64 102]) ∧ Below w.heap.size w w' := by
  unfold refV
  rw [hl]
  go_enter Try.func29, Try.ntmps29
  go_wp2_with fail
  exact bodyPost_ret (v := .tuple #[.agg _, _]) (by simp [results, Try.results29, go_sem]) rfl ⟨rfl, ((Below.refl _ _).alloc (Nat.le_refl _) _).alloc (by simp) _⟩
theorem rarm_ok (As : Option Addr) (cs : Nat) (Aq : Option Addr) (cq : Nat) (D : Dsk) (n : Int) (w : World) (hn : ¬ n < 0) (hl : D.left ≠ 0) :
    Calls Try.prog 29 #[.agg (refV As cs Aq cq D), .int .i64 n] w fun e w' => e = .returned (.tuple #[.agg (refV As cs Aq cq { D with left := n }), .int .i64 0]) ∧ Below w.heap.size w w' := by
  unfold refV
  have hl' : (D.left == 0) = false := by simpa using hl
  generalize D.left = lf at *
  clear hl
  go_enter Try.func29, Try.ntmps29
  go_wp2_with fail
  exact bodyPost_ret (v := .tuple #[.agg _, _]) (by simp [results, Try.results29, go_sem]) rfl ⟨rfl, ((Below.refl _ _).alloc (Nat.le_refl _) _).alloc (by simp) _⟩
end Go.Proofs.Ytfaingklglelnaa

/- The walk over the reference's Read. -/
namespace Go.Proofs.Ytfaingklglelnaa
open Go.RowKit

theorem own_cell {w : World} {base n c k : Nat} {e : TypeId} {A : Option Addr} {xs : List Value} (h : w.ownsRow base e k (.slice A n c) n xs) (i : Nat) (u : Value) (hu : xs[i]? = some u) : ∃ g, A = some ⟨g, 0, none⟩ ∧ w.cell? ⟨g, i, none⟩ = some u := by
  have hl := (List.getElem?_eq_some_iff.1 hu).1
  have h1 := h.1
  rcases h.2 with ⟨h0, rfl⟩ | ⟨g, cap, cur, h2, h3, h4, h5, h6, h7, h8⟩
  · rw [h1, Nat.zero_mul] at hl; omega
  · injection h2 with e1 e2 e3
    refine ⟨g, e1, ?_⟩
    rw [cell_of_row w g i cur _ (0, 0) h4]
    have : (cur.toList.take (n * k))[i]? = some u := by rw [h8]; exact hu
    rw [List.getElem?_take] at this
    split at this
    · simpa using this
    · cases this
theorem wsC_get (q : List (Nat × List UInt8)) (j : Nat) (x : Nat × List UInt8) (hx : q[j]? = some x) : (wsC q)[j * 2]? = some (.int .i64 (x.1 : Int)) ∧ (wsC q)[j * 2 + 1]? = some (.string (txt x.2)) := by
  have h := fun o v hv => fl_mid (f := fun x : Nat × List UInt8 => [Value.int .i64 (x.1 : Int), Value.string (txt x.2)]) (k := 2) q (fun _ _ => rfl) j x hx o v hv
  exact ⟨h 0 _ rfl, h 1 _ rfl⟩
section
variable {w w' : World} {base cs cq : Nat} {As Aq : Option Addr} {D : Dsk}
theorem RefM.atS (h : RefM w base As cs Aq cq D) (i : Nat) (b : List UInt8) (hb : D.sure[i]? = some b) : ∃ g, As = some ⟨g, 0, none⟩ ∧ w.cell? ⟨g, i, none⟩ = some (.string (txt b)) :=
  own_cell h.s i _ (by simp [strC, hb])
theorem RefM.atQ (h : RefM w base As cs Aq cq D) (j : Nat) (x : Nat × List UInt8) (hx : D.queue[j]? = some x) : ∃ g, Aq = some ⟨g, 0, none⟩ ∧ w.cell? ⟨g, j * 2, none⟩ = some (.int .i64 (x.1 : Int)) ∧ w.cell? ⟨g, j * 2 + 1, none⟩ = some (.string (txt x.2)) := by
  obtain ⟨g, e, c1⟩ := own_cell h.q (j * 2) _ (wsC_get D.queue j x hx).1
  obtain ⟨g', e', c2⟩ := own_cell h.q (j * 2 + 1) _ (wsC_get D.queue j x hx).2
  rw [e] at e'
  injection e' with e'
  injection e' with e'
  subst e'
  exact ⟨g, e, c1, c2⟩
end

set_option maxHeartbeats 400000 in
theorem rread_any (w : World) (base : Nat) (As : Option Addr) (cs : Nat) (Aq : Option Addr) (cq : Nat) (D : Dsk) (h : RefM w base As cs Aq cq D) (i : Nat) (hi : i < D.sure.length) :
    Calls Try.prog 49 #[.agg (refV As cs Aq cq D), .int .i64 (i : Int)] w fun e w' => e = .returned (.string (txt (D.read i))) ∧ Below w.heap.size w w' := by
  have hb := List.getElem?_eq_getElem hi
  have h1 := h.below ((Below.refl w.heap.size w).alloc (Nat.le_refl _) (.cells (refV As cs Aq cq D) 64))
  obtain ⟨gs, hAs, c1⟩ := h1.atS i _ hb
  have H1 := hide h1
  have hn := h.ok.n
  have hqn := h.ok.qn
  have hread : D.read i = readQ D.queue i D.sure[i] := by unfold Dsk.read; rw [List.getD_eq_getElem?_getD, hb]; rfl
  rw [hread]
  generalize D.sure[i] = b0 at *
  subst hAs
  clear hb hread h1 h
  unfold refV at *
  go_enter Try.func49, Try.ntmps49
  go_wp2_with fail
  go_loop [5, 15] (fun x y => ∃ j : Nat, j ≤ D.queue.length ∧ x = .string (txt (readQ (D.queue.take j) i b0)) ∧ y = .int .i64 (j : Int)) (fun _ y => D.queue.length - (intOf y).toNat)
  case atStart => exact ⟨0, Nat.zero_le _, rfl, rfl⟩
  case round =>
    obtain ⟨j, hj, rfl, rfl⟩ := hrel
    clear c1
    by_cases hlt : j < D.queue.length
    · obtain ⟨x, hx⟩ : ∃ x, D.queue[j]? = some x := ⟨_, List.getElem?_eq_getElem hlt⟩
      obtain ⟨gq, hAq, c2, c3⟩ := H1.out.atQ j x hx
      have hst := hide (readQ_step D.queue i j b0 x hx)
      subst hAq
      clear hx
      generalize hr : readQ (D.queue.take j) i b0 = rj at *
      replace hr := hide hr
      by_cases hxi : x.1 = i
      · go_wp2_with fail
        go_round
        case rel => exact ⟨j + 1, by omega, by rw [hst.out, if_pos hxi], by go_num⟩
        case measure => simp [intOf]; omega
      · go_wp2_with fail
        go_round
        case rel => exact ⟨j + 1, by omega, by rw [hst.out, if_neg hxi], by go_num⟩
        case measure => simp [intOf]; omega
    · have hjn : j = D.queue.length := by omega
      have hall : D.queue.take j = D.queue := List.take_of_length_le (by omega)
      rw [hall]
      clear hall hjn
      go_wp2_with fail
      go_ret
      exact ⟨rfl, (Below.refl _ _).alloc (Nat.le_refl _) _⟩
end Go.Proofs.Ytfaingklglelnaa

/- append of one row of the call's own onto another, of elements of any size. -/
namespace Go.Proofs.Ytfaingklglelnaa
open Go.RowKit

theorem own_formk {w : World} {base n k : Nat} {e : TypeId} {v : Value} {xs : List Value} (h : w.ownsRow base e k v n xs) : ∃ A c, v = .slice A n c := by
  rcases h.2 with ⟨rfl, rfl⟩ | ⟨g, cap, cur, rfl, _⟩
  · exact ⟨none, 0, rfl⟩
  · exact ⟨_, _, rfl⟩
section
variable {P : Program} (w : World)
theorem run_appk {t ty e : TypeId} {ie : TypeInfo} {z : Value} {size bytes : Nat} (hu : P.underlying t = some (.slice e)) (hi : P.info? e = some ie) (hz : ie.zero = some z) (hs : ie.size = size) (hb : ie.bytes = bytes) (hzs : z.cells.size = size) (hsz : 0 < size) (hpb : 0 < bytes)
    (base : Nat) (v : Value) (n : Nat) (xs : List Value) (hown : w.ownsRow base e size v n xs)
    (base' : Nat) (A : Option Addr) (m c : Nat) (news : List Value) (hr : w.ownsRow base' e size (.slice A m c) m news) (h1 : ∀ u ∈ news, u.oneCell' = true)
    (hbytes : (n + m) * bytes ≤ 140737488355328) (hbase : base ≤ w.heap.size) :
    ∃ A' c' w', (Builtin.append_ #[t, t] ty #[v, .slice A m c]).run P w = .ok (.slice A' (n + m) c') w' ∧ w'.ownsRow base e size (.slice A' (n + m) c') (n + m) (xs ++ news) ∧
      w.grownBy w' v.ownBlock ∧ ((Value.slice A' (n + m) c').ownBlock = v.ownBlock ∨ (Value.slice A' (n + m) c').ownBlock = some w.heap.size) := by
  have hle : n + m ≤ 140737488355328 := Nat.le_trans (Nat.le_mul_of_pos_right _ hpb) hbytes
  have h63 : n + m ≤ maxLen := by simp only [maxLen]; omega
  rcases A with _ | ad
  · have hm : m = 0 := by
      rcases hr.2 with ⟨_, h0⟩ | ⟨g, cap, cur, h, _⟩
      · exact h0
      · cases h
    subst hm
    have hn : news = [] := List.eq_nil_of_length_eq_zero (by have := hr.1; omega)
    subst hn
    obtain ⟨A, c1, rfl⟩ := own_formk hown
    refine ⟨A, c1, w, ?_, by simpa using hown, ⟨rfl, rfl, rfl, Nat.le_refl _, fun _ _ _ => rfl⟩, .inl rfl⟩
    rcases hown.2 with ⟨hv, rfl⟩ | ⟨g, cap, cur, hv, _, _, hnc, _⟩
    · injection hv with hv1 _ hv2
      subst hv1 hv2
      simp [Builtin.append_, run_underlying hu, sizeOf, typeInfo, hi, Builtin.lenOf, Builtin.firstCells]
    · injection hv with hv1 _ hv2
      subst hv1 hv2
      simp [Builtin.append_, run_underlying hu, sizeOf, typeInfo, hi, Builtin.lenOf, Builtin.firstCells, hnc, storeCells]
  · have hcells : ∀ j u, news[j]? = some u → w.cell? (ad.add j) = some u := by
      intro j u hu
      obtain ⟨g, h, hc⟩ := own_cell hr j u hu
      injection h with h
      subst h
      rw [Addr.add_mid, Nat.zero_add]
      exact hc
    obtain ⟨v', w', hrun, h2, h3, _, h5⟩ := run_append_own_at (P := P) w base t ty e ie z size bytes hu hi hz hs hb hzs hsz v n xs hown ad m c news hr.1 hcells h1 h63 hbytes hbase
    obtain ⟨A', c', rfl⟩ := own_formk h2
    exact ⟨A', c', w', hrun, h2, h3, h5⟩
theorem wp_appk {o : Oper} {a : Act} {K : Act → World → Prop} {Q : Exit → Act → World → Prop} (s x : Operand) (t : TypeId)
    (ho : o.op = .call { callee := .builtin .append, args := #[s, x], argTypes := #[t, t] })
    {e : TypeId} {ie : TypeInfo} {z : Value} {size bytes : Nat} (hu : P.underlying t = some (.slice e)) (hi : P.info? e = some ie) (hz : ie.zero = some z) (hs : ie.size = size) (hb : ie.bytes = bytes) (hzs : z.cells.size = size) (hsz : 0 < size) (hpb : 0 < bytes)
    (base : Nat) (v : Value) (n : Nat) (xs : List Value) (hsv : a.eval s = v) (hown : w.ownsRow base e size v n xs)
    (base' : Nat) (A : Option Addr) (m c : Nat) (news : List Value) (hx : a.eval x = .slice A m c) (hr : w.ownsRow base' e size (.slice A m c) m news) (h1 : ∀ u ∈ news, u.oneCell' = true)
    (hbytes : (n + m) * bytes ≤ 140737488355328) (hbase : base ≤ w.heap.size)
    (h : ∀ A' c' w', w'.ownsRow base e size (.slice A' (n + m) c') (n + m) (xs ++ news) → w.grownBy w' v.ownBlock →
      ((Value.slice A' (n + m) c').ownBlock = v.ownBlock ∨ (Value.slice A' (n + m) c').ownBlock = some w.heap.size) → K (a.put o.dst (.slice A' (n + m) c')) w') : o.wp P a w K Q := by
  obtain ⟨A', c', w', hrun, h2, h3, h4⟩ := run_appk (P := P) w (ty := o.type) hu hi hz hs hb hzs hsz hpb base v n xs hown base' A m c news hr h1 hbytes hbase
  unfold Oper.wp execOp
  simp only [ho, resolve, invoke, builtin, Sem.run_bind, Sem.run_pure, Result.andThen_ok, List.map_toArray, List.map_cons, List.map_nil, hsv, hx, hrun]
  exact h A' c' w' h2 h3 h4
theorem wpList_appk {ops : Array Oper} {rest : List Oper} {o : Oper} {a : Act} {Q : Exit → Act → World → Prop} (hgd : o.guard = none) (s x : Operand) (t : TypeId)
    (ho : o.op = .call { callee := .builtin .append, args := #[s, x], argTypes := #[t, t] })
    {e : TypeId} {ie : TypeInfo} {z : Value} {size bytes : Nat} (hu : P.underlying t = some (.slice e)) (hi : P.info? e = some ie) (hz : ie.zero = some z) (hs : ie.size = size) (hb : ie.bytes = bytes) (hzs : z.cells.size = size) (hsz : 0 < size) (hpb : 0 < bytes)
    (base : Nat) (v : Value) (n : Nat) (xs : List Value) (hsv : a.eval s = v) (hown : w.ownsRow base e size v n xs)
    (base' : Nat) (A : Option Addr) (m c : Nat) (news : List Value) (hx : a.eval x = .slice A m c) (hr : w.ownsRow base' e size (.slice A m c) m news) (h1 : ∀ u ∈ news, u.oneCell' = true)
    (hbytes : (n + m) * bytes ≤ 140737488355328) (hbase : base ≤ w.heap.size)
    (h : ∀ A' c' w', w'.ownsRow base e size (.slice A' (n + m) c') (n + m) (xs ++ news) → w.grownBy w' v.ownBlock →
      ((Value.slice A' (n + m) c').ownBlock = v.ownBlock ∨ (Value.slice A' (n + m) c').ownBlock = some w.heap.size) → wpList P ops Q rest (a.put o.dst (.slice A' (n + m) c')) w') : wpList P ops Q (o :: rest) a w :=
  wpList_plain hgd fun _ hK => wp_appk w s x t ho hu hi hz hs hb hzs hsz hpb base v n xs hsv hown base' A m c news hx hr h1 hbytes hbase fun A' c' w' h2 h3 h4 => hK _ _ (h A' c' w' h2 h3 h4)
end
theorem own_made {w : World} {base k : Nat} {e : TypeId} (hb : base ≤ w.heap.size) : (w.alloc (.cells #[] e)).ownsRow base e k (.slice (some ⟨w.heap.size, 0, none⟩) 0 0) 0 [] :=
  ⟨by simp, .inr ⟨w.heap.size, 0, #[], rfl, hb, heap_alloc_new w _, Nat.le_refl _, by simp [maxLen], by simp, by simp⟩⟩
theorem wr_info : ∃ ie, Try.prog.info? 104 = some ie ∧ ie.zero = some (.agg #[.int .i64 0, .string ⟨#[]⟩]) ∧ ie.size = 2 ∧ ie.bytes = 24 :=
  info_parts (show (Try.prog.info? 104).map (fun i => (i.zero, i.size, i.bytes)) = some (some (.agg #[.int .i64 0, .string ⟨#[]⟩]), 2, 24) by kernel_rfl)
theorem str_info : ∃ ie, Try.prog.info? 9 = some ie ∧ ie.zero = some (.string ⟨#[]⟩) ∧ ie.size = 1 ∧ ie.bytes = 16 :=
  info_parts (show (Try.prog.info? 9).map (fun i => (i.zero, i.size, i.bytes)) = some (some (.string ⟨#[]⟩), 1, 16) by kernel_rfl)
theorem wsC_one (q : List (Nat × List UInt8)) : ∀ u ∈ wsC q, u.oneCell' = true := fun u hu => by
  simp only [wsC, List.mem_flatMap, List.mem_cons, List.not_mem_nil, or_false] at hu
  obtain ⟨x, _, rfl | rfl⟩ := hu <;> rfl
theorem strC_one (l : List (List UInt8)) : ∀ u ∈ strC l, u.oneCell' = true := fun u hu => by
  simp only [strC, List.mem_map] at hu
  obtain ⟨x, _, rfl⟩ := hu
  rfl
end Go.Proofs.Ytfaingklglelnaa

/- The walk over the reference's Put. -/
namespace Go.Proofs.Ytfaingklglelnaa
open Go.RowKit

theorem two_boxes {w w1 : World} {t : TypeId} {xs ys : Array Value} (h : Below ((w.alloc (.cells xs t)).alloc (.cells ys t)).heap.size ((w.alloc (.cells xs t)).alloc (.cells ys t)) w1) :
    Blk w1 w.heap.size t xs ∧ Blk w1 (w.heap.size + 1) t ys ∧ Below w.heap.size w w1 ∧ w.heap.size + 2 ≤ w1.heap.size := by
  have h2 : Blk ((w.alloc (.cells xs t)).alloc (.cells ys t)) (w.heap.size + 1) t ys := by
    have := Blk.new (w.alloc (.cells xs t)) t ys
    rwa [World.size_alloc] at this
  refine ⟨((Blk.new w t xs).alloc _).below h, h2.below h, (((Below.refl w.heap.size w).alloc (Nat.le_refl _) _).alloc (by simp) _).trans (h.mono (by simp; omega)), ?_⟩
  have := h.size
  simpa using this
theorem blk4 {w : World} {g : Nat} {t : TypeId} {x0 x1 x2 x3 : Value} (h : Blk w g t #[x0, x1, x2, x3]) :
    w.cell? ⟨g, 0, none⟩ = some x0 ∧ w.cell? ⟨g, 1, none⟩ = some x1 ∧ w.cell? ⟨g, 2, none⟩ = some x2 ∧ w.cell? ⟨g, 3, none⟩ = some x3 ∧
    w.frozen? ⟨g, 0, none⟩ = false ∧ w.frozen? ⟨g, 1, none⟩ = false ∧ w.frozen? ⟨g, 2, none⟩ = false ∧ w.frozen? ⟨g, 3, none⟩ = false :=
  ⟨h.cell 0, h.cell 1, h.cell 2, h.cell 3, h.frozen 0, h.frozen 1, h.frozen 2, h.frozen 3⟩
theorem set4 {w : World} {g : Nat} {t : TypeId} {x0 x1 x2 x3 : Value} (h : Blk w g t #[x0, x1, x2, x3]) (y0 y1 y2 y3 : Value) :
    Blk ((((w.setCell ⟨g, 0, none⟩ y0).setCell ⟨g, 1, none⟩ y1).setCell ⟨g, 2, none⟩ y2).setCell ⟨g, 3, none⟩ y3) g t #[y0, y1, y2, y3] := (((h.set 0 y0).set 1 y1).set 2 y2).set 3 y3
theorem far4 {w : World} {g g' : Nat} {t : TypeId} {cs : Array Value} (h : Blk w g t cs) (hn : g ≠ g') (y0 y1 y2 y3 : Value) :
    Blk ((((w.setCell ⟨g', 0, none⟩ y0).setCell ⟨g', 1, none⟩ y1).setCell ⟨g', 2, none⟩ y2).setCell ⟨g', 3, none⟩ y3) g t cs :=
  (((h.far (p := ⟨g', 0, none⟩) hn y0).far (p := ⟨g', 1, none⟩) hn y1).far (p := ⟨g', 2, none⟩) hn y2).far (p := ⟨g', 3, none⟩) hn y3
theorem bel4 {w0 w : World} {B g' : Nat} (h : Below B w0 w) (hn : B ≤ g') (y0 y1 y2 y3 : Value) :
    Below B w0 ((((w.setCell ⟨g', 0, none⟩ y0).setCell ⟨g', 1, none⟩ y1).setCell ⟨g', 2, none⟩ y2).setCell ⟨g', 3, none⟩ y3) :=
  (((h.setCell (p := ⟨g', 0, none⟩) hn y0).setCell (p := ⟨g', 1, none⟩) hn y1).setCell (p := ⟨g', 2, none⟩) hn y2).setCell (p := ⟨g', 3, none⟩) hn y3
theorem rput_no (As : Option Addr) (cs : Nat) (Aq : Option Addr) (cq : Nat) (D : Dsk) (i : Int) (b : List UInt8) (w : World) (hi : ¬ (0 ≤ i ∧ i < D.sure.length) ∨ b.length ≠ 64) (hb : b.length ≤ 9223372036854775807) (hn : D.sure.length ≤ 4096) :
    Calls Try.prog 33 #[.agg (refV As cs Aq cq D), .int .i64 i, .string (txt b)] w fun e w' => e = .returned (.tuple #[.agg (refV As cs Aq cq D), .int .i64 22]) ∧ Below w.heap.size w w' := by
  have hsz : (txt b).size = b.length := by simp [txt, ByteArray.size]
  unfold refV
  by_cases h1 : i < 0
  · clear hi
    go_enter Try.func33, Try.ntmps33
    go_wp2_with fail
    exact bodyPost_ret (v := .tuple #[.agg _, _]) (by simp [results, Try.results33, go_sem]) rfl ⟨rfl, ((Below.refl _ _).alloc (Nat.le_refl _) _).alloc (by simp) _⟩
  · by_cases h2 : (D.sure.length : Int) ≤ i
    · clear hi
      go_enter Try.func33, Try.ntmps33
      go_wp2_with fail
      exact bodyPost_ret (v := .tuple #[.agg _, _]) (by simp [results, Try.results33, go_sem]) rfl ⟨rfl, ((Below.refl _ _).alloc (Nat.le_refl _) _).alloc (by simp) _⟩
    · have h3 : ¬ (b.length : Int) = 64 := by omega
      clear hi
      go_enter Try.func33, Try.ntmps33
      go_wp2_with fail
      exact bodyPost_ret (v := .tuple #[.agg _, _]) (by simp [results, Try.results33, go_sem]) rfl ⟨rfl, ((Below.refl _ _).alloc (Nat.le_refl _) _).alloc (by simp) _⟩
theorem rput_dead (As : Option Addr) (cs : Nat) (Aq : Option Addr) (cq : Nat) (D : Dsk) (i : Nat) (b : List UInt8) (w : World) (hi : i < D.sure.length) (hb : b.length = 64) (hl : D.left = 0) (hn : D.sure.length ≤ 4096) :
    Calls Try.prog 33 #[.agg (refV As cs Aq cq D), .int .i64 (i : Int), .string (txt b)] w fun e w' => e = .returned (.tuple #[.agg (refV As cs Aq cq D), .int .i64 102]) ∧ Below w.heap.size w w' := by
  have hsz : (txt b).size = 64 := by simp [txt, ByteArray.size, hb]
  have C := hide (fun w => rstep_dead As cs Aq cq D w hl)
  unfold refV at C ⊢
  clear hl
  go_enter Try.func33, Try.ntmps33
  go_wp2_with fail
  refine (C.out _).mono ?_
  rintro e w1 ⟨rfl, hb1⟩
  obtain ⟨K1, K2, hb, hs⟩ := two_boxes hb1
  obtain ⟨c0, c1, c2, c3, f0, f1, f2, f3⟩ := blk4 K1
  obtain ⟨d0, d1, d2, d3, e0, e1, e2, e3⟩ := blk4 K2
  have Hb := hide hb
  clear hb1 hb hs K1 K2
  go_wp2_with fail
  exact bodyPost_ret (v := .tuple #[.agg _, _]) (by simp [results, Try.results33, go_sem, d0, d1, d2, d3]) rfl ⟨rfl, bel4 (bel4 Hb.out (Nat.le_refl _) _ _ _ _) (Nat.le_succ _) _ _ _ _⟩

theorem Dsk.Ok.wrote {D : Dsk} (h : D.Ok) (hs : D.steps < 1000000) (hq : D.queue.length < 1000000) {i : Nat} {b : List UInt8} (hi : i < D.sure.length) (hb : b.length = 64) : (D.wrote i b).Ok :=
  { h.stepped hs with q := (fun x hx => by
      rcases List.mem_append.1 hx with hx | hx
      · exact h.q x hx
      · rw [List.mem_singleton] at hx
        subst hx
        exact ⟨hb, hi⟩), qn := (by show (D.queue ++ [(i, b)]).length ≤ 1000000; simp; omega) }
set_option maxHeartbeats 1000000 in
theorem rput_ok (base : Nat) (As : Option Addr) (cs : Nat) (Aq : Option Addr) (cq : Nat) (D : Dsk) (i : Nat) (b : List UInt8) (w : World) (h : RefM w base As cs Aq cq D) (hbs : base ≤ w.heap.size) (hi : i < D.sure.length) (hb : b.length = 64) (hl : D.left ≠ 0) (hs : D.steps < 1000000) (hq : D.queue.length < 1000000) :
    Calls Try.prog 33 #[.agg (refV As cs Aq cq D), .int .i64 (i : Int), .string (txt b)] w fun e w' => ∃ A' c', e = .returned (.tuple #[.agg (refV As cs A' c' (D.wrote i b)), .int .i64 0]) ∧ RefM w' base As cs A' c' (D.wrote i b) ∧ Below w.heap.size w w' ∧ (∀ g, (Value.slice A' 0 0).ownBlock = some g → w.heap.size ≤ g) := by
  have hsz : (txt b).size = 64 := by simp [txt, ByteArray.size, hb]
  have hok := h.ok.wrote hs hq hi hb
  have C := hide (fun w => rstep_ok As cs Aq cq D w hl h.ok hs)
  have hn := h.ok.n
  have H := hide h
  unfold refV at C ⊢
  have hs1 : D.stepped.sure.length = D.sure.length := rfl
  have hs2 : D.stepped.queue.length = D.queue.length := rfl
  rw [hs1, hs2] at C
  generalize hst : (D.stepped.steps : Int) = st at *
  generalize hlf : D.stepped.left = lf at *
  replace hst := hide hst
  replace hlf := hide hlf
  replace hok := hide hok
  clear hl h hs1 hs2
  go_enter Try.func33, Try.ntmps33
  go_wp2_with fail
  refine (C.out _).mono ?_
  rintro e w1 ⟨rfl, hb1⟩
  obtain ⟨K1, K2, hb, hs⟩ := two_boxes hb1
  have HK1 := hide K1
  have HK2 := hide K2
  obtain ⟨c0, c1, c2, c3, f0, f1, f2, f3⟩ := blk4 K1
  have Hb := hide hb
  clear hb1 hb hs K1 K2 C
  go_upto_region 6 with fail
  have J1 := hide (set4 HK1.out (.slice As D.sure.length cs) (.slice Aq D.queue.length cq) (.int .i64 st) (.int .i64 lf))
  have J2 := hide (far4 HK2.out (Nat.succ_ne_self _) (.slice As D.sure.length cs) (.slice Aq D.queue.length cq) (.int .i64 st) (.int .i64 lf))
  have Hb2 := hide (bel4 Hb.out (Nat.le_refl _) (.slice As D.sure.length cs) (.slice Aq D.queue.length cq) (.int .i64 st) (.int .i64 lf))
  clear c0 c1 c2 c3 f0 f1 f2 f3 HK1 HK2 Hb
  generalize (((w1.setCell ⟨w.heap.size, 0, none⟩ (.slice As D.sure.length cs)).setCell ⟨w.heap.size, 1, none⟩ (.slice Aq D.queue.length cq)).setCell ⟨w.heap.size, 2, none⟩ (.int .i64 st)).setCell ⟨w.heap.size, 3, none⟩ (.int .i64 lf) = w2 at *
  have c1 : (w2.alloc (.cells #[] 104)).cell? ⟨w.heap.size, 1, none⟩ = some (.slice Aq D.queue.length cq) := (J1.out.alloc _).cell 1
  have hs2 : Hid (w.heap.size + 2 ≤ w2.heap.size) := hide (by have := J2.out.lt; omega)
  go_wp2_with (
    at_builtin
    obtain ⟨ie, hie, z1, z2, z3⟩ := wr_info
    refine wpList_appk _ rfl (.tmp 32) (.tmp 34) _ rfl Try.underlying62 hie z1 z2 z3 rfl (by decide) (by decide) w.heap.size (.slice (some ⟨w2.heap.size, 0, none⟩) 0 0) 0 [] rfl (own_made Hb2.out.size) base Aq D.queue.length cq (wsC D.queue) rfl
      (own_kp (H.out.below Hb2.out).q (Kp.of_below (gs := []) ((Below.refl _ _).alloc (Nat.le_refl _) _)) (by simp)) (wsC_one _) (by omega) (Nat.le_trans Hb2.out.size (by simp)) ?_
    intro A3 c3 w3 hown3 hg3 hat3
    simp only [Nat.zero_add, List.nil_append] at hown3 hat3
    have L1 := hide (blk_grown (J1.out.alloc (.cells #[] 104)) hg3 (by simp [Value.ownBlock]; have := J1.out.lt; omega))
    have L2 := hide (blk_grown (J2.out.alloc (.cells #[] 104)) hg3 (by simp [Value.ownBlock]; have := J2.out.lt; omega))
    have Lb := hide (bel_grow (Hb2.out.alloc Hb2.out.size (.cells #[] 104)) hg3 (fun k hk => by simp only [Value.ownBlock, Option.some.injEq] at hk; have := hs2.out; omega) (Nat.le_trans Hb2.out.size (by simp)))
    have Ho := hide hown3
    have Ha := hide (show ∀ g, (Value.slice A3 D.queue.length c3).ownBlock = some g → w.heap.size + 2 ≤ g ∧ g < w3.heap.size from fun g hg => ⟨by
      have := hs2.out
      rcases hat3 with h | h
      · rw [hg] at h; simp [Value.ownBlock] at h; omega
      · rw [hg] at h; simp at h; omega, (hown3.lt g hg).2⟩)
    have hs3 : w.heap.size ≤ w3.heap.size := Lb.out.size
    clear hown3 hg3 hat3
    go_wp2_with (
      at_builtin
      refine wpList_append_lies _ rfl (.tmp 35) (.tmp 39) _ rfl w.heap.size 104 ie _ 2 24 Try.underlying62 hie z1 z2 z3 rfl (by decide) (.slice A3 D.queue.length c3) D.queue.length (wsC D.queue) rfl (own_kp Ho.out (Kp.of_below (gs := []) ((Below.refl _ _).alloc (Nat.le_refl _) _)) (by simp)) ⟨w3.heap.size, 0, none⟩ 1 1 [.int .i64 (i : Int), .string (txt b)] rfl
        rfl (World.news_of_block (heap_alloc_new w3 (.cells #[.int .i64 (i : Int), .string (txt b)] 104))) (by intro u hu; simp at hu; rcases hu with rfl | rfl <;> rfl) (by decide) (by simp only [maxLen]; omega) (by omega) (Nat.le_trans hs3 (by simp)) _ rfl ?_
      intro g4 c4 w4 hown4 hg4 hat4 hlt4
      have M1 := hide (blk_grown (L1.out.alloc (.cells #[.int .i64 (i : Int), .string (txt b)] 104)) hg4 (fun e => by have := (Ha.out _ e.symm).1; omega))
      have M2 := hide (blk_grown (L2.out.alloc (.cells #[.int .i64 (i : Int), .string (txt b)] 104)) hg4 (fun e => by have := (Ha.out _ e.symm).1; omega))
      have Mb := hide (bel_grow (Lb.out.alloc hs3 (.cells #[.int .i64 (i : Int), .string (txt b)] 104)) hg4 (fun k hk => by have := (Ha.out k hk).1; omega) (Nat.le_trans hs3 (by simp)))
      have Mo := hide hown4
      have Mg : Hid (w.heap.size + 2 ≤ g4) := hide (by
        rcases hat4 with h | h
        · exact (Ha.out _ h).1
        · rw [h]; simp; have := L2.out.lt; omega)
      clear hown4 hg4 hat4 hlt4
      obtain ⟨c0, c1, c2, c3, f0, f1, f2, f3⟩ := blk4 M1.out
      obtain ⟨d0, d1, d2, d3, e0, e1, e2, e3⟩ := blk4 M2.out))
  refine bodyPost_ret (v := .tuple #[.agg #[.slice As D.sure.length cs, .slice (some ⟨g4, 0, none⟩) (D.queue.length + 1) c4, .int .i64 st, .int .i64 lf], .int .i64 0]) (by simp [results, Try.results33, go_sem, d0, d1, d2, d3]) rfl ?_
  have hbel := bel4 (Mb.out.setCell (p := ⟨w.heap.size, 1, none⟩) (Nat.le_refl _) (.slice (some ⟨g4, 0, none⟩) (D.queue.length + 1) c4)) (Nat.le_succ w.heap.size) (.slice As D.sure.length cs) (.slice (some ⟨g4, 0, none⟩) (D.queue.length + 1) c4) (.int .i64 st) (.int .i64 lf)
  refine ⟨some ⟨g4, 0, none⟩, c4, ?_, ⟨?_, ?_, hok.out⟩, hbel, fun g hg => ?_⟩
  · have e1 : (D.wrote i b).queue.length = D.queue.length + 1 := by simp [Dsk.wrote]
    rw [e1, show ((D.wrote i b).steps : Int) = st from hst.out, show (D.wrote i b).left = lf from hlf.out]
    rfl
  · exact (H.out.below hbel).s
  · have hk : Kp [w.heap.size, w.heap.size + 1] w4 _ := ((((((Kp.refl _ w4).set (p := ⟨w.heap.size, 1, none⟩) (.inl (by simp)) (.slice (some ⟨g4, 0, none⟩) (D.queue.length + 1) c4)).set (p := ⟨w.heap.size + 1, 0, none⟩) (.inl (by simp)) (.slice As D.sure.length cs)).set (p := ⟨w.heap.size + 1, 1, none⟩) (.inl (by simp)) (.slice (some ⟨g4, 0, none⟩) (D.queue.length + 1) c4)).set (p := ⟨w.heap.size + 1, 2, none⟩) (.inl (by simp)) (.int .i64 st)).set (p := ⟨w.heap.size + 1, 3, none⟩) (.inl (by simp)) (.int .i64 lf))
    have := own_base65 (own_kp Mo.out hk (fun g hg => by
      simp only [Value.ownBlock, Option.some.injEq] at hg
      have := Mg.out
      simp; omega)) hbs
    rw [show wsC D.queue ++ [Value.int .i64 (i : Int), Value.string (txt b)] = wsC (D.wrote i b).queue by simp [wsC, Dsk.wrote]] at this
    rw [show (D.wrote i b).queue.length = D.queue.length + 1 by simp [Dsk.wrote]]
    exact this
  · simp only [Value.ownBlock, Option.some.injEq] at hg
    have := Mg.out
    omega
end Go.Proofs.Ytfaingklglelnaa

/- The walk over the reference's Barrier. -/
namespace Go.Proofs.Ytfaingklglelnaa
open Go.RowKit
attribute [local go_sem ↓] Go.wp_at_zero Go.wp_at_succ

theorem rbar_dead (As : Option Addr) (cs : Nat) (Aq : Option Addr) (cq : Nat) (D : Dsk) (w : World) (hl : D.left = 0) :
    Calls Try.prog 46 #[.agg (refV As cs Aq cq D)] w fun e w' => e = .returned (.tuple #[.agg (refV As cs Aq cq D), .int .i64 102]) ∧ Below w.heap.size w w' := by
  have C := hide (fun w => rstep_dead As cs Aq cq D w hl)
  unfold refV at C ⊢
  clear hl
  go_enter Try.func46, Try.ntmps46
  go_wp2_with fail
  refine (C.out _).mono ?_
  rintro e w1 ⟨rfl, hb1⟩
  obtain ⟨K1, K2, hb, hs⟩ := two_boxes hb1
  obtain ⟨c0, c1, c2, c3, f0, f1, f2, f3⟩ := blk4 K1
  obtain ⟨d0, d1, d2, d3, e0, e1, e2, e3⟩ := blk4 K2
  have Hb := hide hb
  clear hb1 hb hs K1 K2
  go_wp2_with fail
  exact bodyPost_ret (v := .tuple #[.agg _, _]) (by simp [results, Try.results46, go_sem, d0, d1, d2, d3]) rfl ⟨rfl, bel4 (bel4 Hb.out (Nat.le_refl _) _ _ _ _) (Nat.le_succ _) _ _ _ _⟩

theorem own_set {w : World} {base n c k : Nat} {e : TypeId} {A : Option Addr} {xs : List Value} (h : w.ownsRow base e 1 (.slice A n c) n xs) (hk : k < n) :
    ∃ g u, A = some ⟨g, 0, none⟩ ∧ base ≤ g ∧ g < w.heap.size ∧ w.cell? ⟨g, k, none⟩ = some u ∧ w.frozen? ⟨g, k, none⟩ = false ∧ ∀ v, (w.setCell ⟨g, k, none⟩ v).ownsRow base e 1 (.slice A n c) n (xs.set k v) := by
  obtain ⟨ad, u, hA, h1, h2, -, h4, h5, h6⟩ := own_at h hk
  rcases h.2 with ⟨hv, _⟩ | ⟨g, cap, cur, hv, _⟩
  · rw [hA] at hv; injection hv with hv; cases hv
  · injection hv with hv
    rw [hA] at hv
    injection hv with hv
    subst hv
    rw [Addr.add_mid, Nat.zero_add] at h4 h5
    refine ⟨g, u, hA, h1, h2, h4, h5, fun v => ?_⟩
    have := h6 v
    rwa [Addr.add_mid, Nat.zero_add] at this
theorem Dsk.Ok.barred {D : Dsk} (h : D.Ok) (hs : D.steps < 1000000) : D.barred.Ok :=
  { h.stepped hs with b := putQ_64 _ _ (fun y hy => (h.q y hy).1) h.b, q := (fun y hy => by cases hy), n := (by rw [show D.barred.sure.length = D.sure.length from putQ_len _ _]; exact h.n), qn := Nat.zero_le _ }

set_option maxHeartbeats 1000000 in
set_option maxRecDepth 100000 in
theorem rbar_ok (base : Nat) (As : Option Addr) (cs : Nat) (Aq : Option Addr) (cq : Nat) (D : Dsk) (w : World) (h : RefM w base As cs Aq cq D) (hbs : base ≤ w.heap.size) (hl : D.left ≠ 0) (hs : D.steps < 1000000) :
    Calls Try.prog 46 #[.agg (refV As cs Aq cq D)] w fun e w' => ∃ A' c', e = .returned (.tuple #[.agg (refV A' c' none 0 D.barred), .int .i64 0]) ∧ RefM w' base A' c' none 0 D.barred ∧ Below w.heap.size w w' ∧ (∀ g, (Value.slice A' 0 0).ownBlock = some g → w.heap.size ≤ g) := by
  have hok := h.ok.barred hs
  have C := hide (fun w => rstep_ok As cs Aq cq D w hl h.ok hs)
  have hn := h.ok.n
  have hqn := h.ok.qn
  have hq := hide h.ok.q
  have H := hide h
  unfold refV at C ⊢
  have hs1 : D.stepped.sure.length = D.sure.length := rfl
  have hs2 : D.stepped.queue.length = D.queue.length := rfl
  rw [hs1, hs2] at C
  generalize hst : (D.stepped.steps : Int) = st at *
  generalize hlf : D.stepped.left = lf at *
  replace hst := hide hst
  replace hlf := hide hlf
  replace hok := hide hok
  clear hl h hs1 hs2
  go_enter Try.func46, Try.ntmps46
  go_wp2_with fail
  refine (C.out _).mono ?_
  rintro e w1 ⟨rfl, hb1⟩
  obtain ⟨K1, K2, hb, hs⟩ := two_boxes hb1
  have HK1 := hide K1
  have HK2 := hide K2
  obtain ⟨c0, c1, c2, c3, f0, f1, f2, f3⟩ := blk4 K1
  have Hb := hide hb
  clear hb1 hb hs K1 K2 C
  go_upto_region 4 with fail
  have J1 := hide (set4 HK1.out (.slice As D.sure.length cs) (.slice Aq D.queue.length cq) (.int .i64 st) (.int .i64 lf))
  have J2 := hide (far4 HK2.out (Nat.succ_ne_self _) (.slice As D.sure.length cs) (.slice Aq D.queue.length cq) (.int .i64 st) (.int .i64 lf))
  have Hb2 := hide (bel4 Hb.out (Nat.le_refl _) (.slice As D.sure.length cs) (.slice Aq D.queue.length cq) (.int .i64 st) (.int .i64 lf))
  clear c0 c1 c2 c3 f0 f1 f2 f3 HK1 HK2 Hb
  generalize (((w1.setCell ⟨w.heap.size, 0, none⟩ (.slice As D.sure.length cs)).setCell ⟨w.heap.size, 1, none⟩ (.slice Aq D.queue.length cq)).setCell ⟨w.heap.size, 2, none⟩ (.int .i64 st)).setCell ⟨w.heap.size, 3, none⟩ (.int .i64 lf) = w2 at *
  have c1 : (w2.alloc (.cells #[] 9)).cell? ⟨w.heap.size, 0, none⟩ = some (.slice As D.sure.length cs) := (J1.out.alloc _).cell 0
  have hs2 : Hid (w.heap.size + 2 ≤ w2.heap.size) := hide (by have := J2.out.lt; omega)
  go_wp2_with (
    at_builtin
    obtain ⟨ie, hie, z1, z2, z3⟩ := str_info
    refine wpList_appk _ rfl (.tmp 14) (.tmp 16) _ rfl Try.underlying61 hie z1 z2 z3 rfl (by decide) (by decide) w.heap.size (.slice (some ⟨w2.heap.size, 0, none⟩) 0 0) 0 [] rfl (own_made Hb2.out.size) base As D.sure.length cs (strC D.sure) rfl
      (own_kp (H.out.below Hb2.out).s (Kp.of_below (gs := []) ((Below.refl _ _).alloc (Nat.le_refl _) _)) (by simp)) (strC_one _) (by omega) (Nat.le_trans Hb2.out.size (by simp)) ?_
    intro A3 cA w3 hown3 hg3 hat3
    simp only [Nat.zero_add, List.nil_append] at hown3 hat3
    have L1 := hide (blk_grown (J1.out.alloc (.cells #[] 9)) hg3 (by simp [Value.ownBlock]; have := J1.out.lt; omega))
    have L2 := hide (blk_grown (J2.out.alloc (.cells #[] 9)) hg3 (by simp [Value.ownBlock]; have := J2.out.lt; omega))
    have Lb := hide (bel_grow (Hb2.out.alloc Hb2.out.size (.cells #[] 9)) hg3 (fun k hk => by simp only [Value.ownBlock, Option.some.injEq] at hk; have := hs2.out; omega) (Nat.le_trans Hb2.out.size (by simp)))
    have Ho := hide hown3
    have Ha := hide (show ∀ g, (Value.slice A3 D.sure.length cA).ownBlock = some g → w.heap.size + 2 ≤ g ∧ g < w3.heap.size from fun g hg => ⟨by
      have := hs2.out
      rcases hat3 with h | h
      · rw [hg] at h; simp [Value.ownBlock] at h; omega
      · rw [hg] at h; simp at h; omega, (hown3.lt g hg).2⟩)
    have hs3 : w.heap.size ≤ w3.heap.size := Lb.out.size
    clear hown3 hg3 hat3 J1 J2
    obtain ⟨c0, c1, c2, c3, f0, f1, f2, f3⟩ := blk4 L1.out)
  have N1 := hide (L1.out.set 0 (.slice A3 D.sure.length cA))
  have N2 : Hid (∃ z0 z1 z2 z3, Blk (w3.setCell ⟨w.heap.size, 0, none⟩ (.slice A3 D.sure.length cA)) (w.heap.size + 1) 64 #[z0, z1, z2, z3]) := hide ⟨_, _, _, _, L2.out.far (p := ⟨w.heap.size, 0, none⟩) (Nat.succ_ne_self _) _⟩
  have Nb := hide (Lb.out.setCell (p := ⟨w.heap.size, 0, none⟩) (Nat.le_refl _) (.slice A3 D.sure.length cA))
  have No := hide (own_kp Ho.out ((Kp.refl [w.heap.size] w3).set (p := ⟨w.heap.size, 0, none⟩) (.inl (by simp)) (.slice A3 D.sure.length cA)) (fun g hg => by have := (Ha.out g hg).1; simp; omega))
  have Ha2 := hide (fun g (hg : (Value.slice A3 D.sure.length cA).ownBlock = some g) => (Ha.out g hg).1)
  clear L1 L2 Lb Ho Ha c0 c1 c2 c3 f0 f1 f2 f3
  generalize w3.setCell ⟨w.heap.size, 0, none⟩ (.slice A3 D.sure.length cA) = w4 at *
  go_loopw [22] (fun x wr => ∃ j : Nat, j ≤ D.queue.length ∧ x = .int .i64 (j : Int) ∧ Blk wr w.heap.size 64 #[.slice A3 D.sure.length cA, .slice Aq D.queue.length cq, .int .i64 st, .int .i64 lf] ∧ (∃ z0 z1 z2 z3, Blk wr (w.heap.size + 1) 64 #[z0, z1, z2, z3]) ∧
    wr.ownsRow w.heap.size 9 1 (.slice A3 D.sure.length cA) D.sure.length (strC (putQ (D.queue.take j) D.sure)) ∧ Below w.heap.size w wr) (fun x _ => D.queue.length - (intOf x).toNat)
  case atStart => exact ⟨0, Nat.zero_le _, rfl, N1.out, N2.out, No.out, Nb.out⟩
  case round =>
    obtain ⟨j, hj, rfl, g1, g2, g3, g4⟩ := hrel
    have G1 := hide g1
    have G2 := hide g2
    have G3 := hide g3
    have G4 := hide g4
    clear g1 g2 g3 g4 N1 N2 No Nb
    by_cases hlt : j < D.queue.length
    · obtain ⟨x, hx⟩ : ∃ x, D.queue[j]? = some x := ⟨_, List.getElem?_eq_getElem hlt⟩
      obtain ⟨hxl, hxs⟩ := hq.out x (List.mem_of_getElem? hx)
      obtain ⟨gq, hAq, q1, q2⟩ := (H.out.below G4.out).atQ j x hx
      have hgq : gq < w.heap.size := by
        have := (H.out.qLt gq (by rw [hAq]; rfl)).2
        exact this
      obtain ⟨g, u, hA3, hg1, hg2, s1, s2, s3⟩ := own_set G3.out hxs
      have hgb := Ha2.out g (by rw [hA3]; rfl)
      have hst := hide (putQ_step D.queue j D.sure x hx)
      have P3 := hide (s3 (.string (txt x.2)))
      have P1 := hide (G1.out.far (p := ⟨g, x.1, none⟩) (show w.heap.size ≠ g by omega) (.string (txt x.2)))
      have P2 : Hid (∃ z0 z1 z2 z3, Blk (wr.setCell ⟨g, x.1, none⟩ (.string (txt x.2))) (w.heap.size + 1) 64 #[z0, z1, z2, z3]) := by
        obtain ⟨z0, z1, z2, z3, hz⟩ := G2.out
        exact hide ⟨z0, z1, z2, z3, hz.far (p := ⟨g, x.1, none⟩) (show w.heap.size + 1 ≠ g by omega) _⟩
      have P4 := hide (G4.out.setCell (p := ⟨g, x.1, none⟩) (show w.heap.size ≤ g by omega) (.string (txt x.2)))
      have S1 : wr.cell? ⟨w.heap.size, 0, none⟩ = some (.slice A3 D.sure.length cA) := G1.out.cell 0
      have S2 : wr.cell? ⟨w.heap.size, 1, none⟩ = some (.slice Aq D.queue.length cq) := G1.out.cell 1
      have T1 : (wr.setCell ⟨g, x.1, none⟩ (.string (txt x.2))).cell? ⟨w.heap.size, 0, none⟩ = some (.slice A3 D.sure.length cA) := P1.out.cell 0
      have T2 : (wr.setCell ⟨g, x.1, none⟩ (.string (txt x.2))).cell? ⟨w.heap.size, 1, none⟩ = some (.slice Aq D.queue.length cq) := P1.out.cell 1
      have T3 : (wr.setCell ⟨g, x.1, none⟩ (.string (txt x.2))).cell? ⟨gq, j * 2, none⟩ = some (.int .i64 (x.1 : Int)) := (World.cell?_of_block (Below.heap_setCell wr ⟨g, x.1, none⟩ _ gq (show gq ≠ g by omega))).trans q1
      have T4 : (wr.setCell ⟨g, x.1, none⟩ (.string (txt x.2))).cell? ⟨gq, j * 2 + 1, none⟩ = some (.string (txt x.2)) := (World.cell?_of_block (Below.heap_setCell wr ⟨g, x.1, none⟩ _ gq (show gq ≠ g by omega))).trans q2
      subst hA3 hAq
      clear s3 hx hgq hgb hg1 hg2
      go_wp2_with fail
      refine wp_region_noPanic ?_
      refine wp_region_held_drew (S := (fun w' => w'.cell? ⟨w.heap.size, 0, none⟩ = some (.slice (some ⟨g, 0, none⟩) D.sure.length cA) ∧ w'.cell? ⟨w.heap.size, 1, none⟩ = some (.slice (some ⟨gq, 0, none⟩) D.queue.length cq) ∧ w'.cell? ⟨gq, j * 2, none⟩ = some (.int .i64 (x.1 : Int)) ∧ w'.cell? ⟨gq, j * 2 + 1, none⟩ = some (.string (txt x.2)))) (by kernel_rfl) ?_ (fun hHeld => ?_)
      · ((try dsimp only) <;> (first | trivial | assumption | go_keep))
      refine wpAnyH_take (i := 0) (v := ?_) (by simp only [List.getElem?_toArray, List.getElem?_cons_succ, List.getElem?_cons_zero]; rfl) (by kernel_rfl) (by kernel_rfl) (by kernel_rfl) (fun _ _ _ h => h) (Or.inl ⟨by rfl, ?_⟩) (by assumption) ?_
      rotate_left 1
      · (intro w hSw; (try dsimp only at hSw); go_simp; try with_reducible rfl)
      try simp only [Act.put, List.setIfInBounds_toArray, List.set_cons_zero, List.set_cons_succ]
      refine wpAnyH_take (i := 1) (v := ?_) (by simp only [List.getElem?_toArray, List.getElem?_cons_succ, List.getElem?_cons_zero]; rfl) (by kernel_rfl) (by kernel_rfl) (by kernel_rfl) (fun _ _ _ h => h) (Or.inl ⟨by rfl, ?_⟩) (by assumption) ?_
      rotate_left 1
      · (intro w hSw; (try dsimp only at hSw); go_simp; try with_reducible rfl)
      try simp only [Act.put, List.setIfInBounds_toArray, List.set_cons_zero, List.set_cons_succ]
      refine wpAnyH_take (i := 2) (v := ?_) (by simp only [List.getElem?_toArray, List.getElem?_cons_succ, List.getElem?_cons_zero]; rfl) (by kernel_rfl) (by kernel_rfl) (by kernel_rfl) (fun _ _ _ h => h) (Or.inl ⟨by rfl, ?_⟩) (by assumption) ?_
      rotate_left 1
      · (intro w hSw; (try dsimp only at hSw); go_simp; try with_reducible rfl)
      try simp only [Act.put, List.setIfInBounds_toArray, List.set_cons_zero, List.set_cons_succ]
      refine wpAnyH_take (i := 3) (v := ?_) (by simp only [List.getElem?_toArray, List.getElem?_cons_succ, List.getElem?_cons_zero]; rfl) (by kernel_rfl) (by kernel_rfl) (by kernel_rfl) (fun _ _ _ h => h) (Or.inl ⟨by rfl, ?_⟩) (by assumption) ?_
      rotate_left 1
      · (intro w hSw; (try dsimp only at hSw); go_simp; try with_reducible rfl)
      try simp only [Act.put, List.setIfInBounds_toArray, List.set_cons_zero, List.set_cons_succ]
      refine wpAnyH_take (i := 4) (v := ?_) (by simp only [List.getElem?_toArray, List.getElem?_cons_succ, List.getElem?_cons_zero]; rfl) (by kernel_rfl) (by kernel_rfl) (by kernel_rfl) (fun _ _ _ h => h) (Or.inl ⟨by rfl, ?_⟩) (by assumption) ?_
      rotate_left 1
      · (intro w hSw; (try dsimp only at hSw); go_simp; try with_reducible rfl)
      try simp only [Act.put, List.setIfInBounds_toArray, List.set_cons_zero, List.set_cons_succ]
      refine wpAnyH_take (i := 5) (v := ?_) (by simp only [List.getElem?_toArray, List.getElem?_cons_succ, List.getElem?_cons_zero]; rfl) (by kernel_rfl) (by kernel_rfl) (by kernel_rfl) (fun _ _ _ h => h) (Or.inl ⟨by rfl, ?_⟩) (by assumption) ?_
      rotate_left 1
      · (intro w hSw; (try dsimp only at hSw); go_simp; try with_reducible rfl)
      try simp only [Act.put, List.setIfInBounds_toArray, List.set_cons_zero, List.set_cons_succ]
      refine wpAnyH_take (i := 6) (v := ?_) (by simp only [List.getElem?_toArray, List.getElem?_cons_succ, List.getElem?_cons_zero]; rfl) (by kernel_rfl) (by kernel_rfl) (by kernel_rfl) (fun _ _ _ h => h) (Or.inl ⟨by rfl, ?_⟩) (by assumption) ?_
      rotate_left 1
      · (intro w hSw; (try dsimp only at hSw); go_simp; try with_reducible rfl)
      try simp only [Act.put, List.setIfInBounds_toArray, List.set_cons_zero, List.set_cons_succ]
      refine wpAnyH_take (i := 7) (v := ?_) (by simp only [List.getElem?_toArray, List.getElem?_cons_succ, List.getElem?_cons_zero]; rfl) (by kernel_rfl) (by kernel_rfl) (by kernel_rfl) (fun _ _ _ h => h) (Or.inl ⟨by rfl, ?_⟩) (by assumption) ?_
      rotate_left 1
      · (intro w hSw; (try dsimp only at hSw); go_simp; try with_reducible rfl)
      try simp only [Act.put, List.setIfInBounds_toArray, List.set_cons_zero, List.set_cons_succ]
      refine wpAnyH_take (i := 8) (v := ?_) (by simp only [List.getElem?_toArray, List.getElem?_cons_succ, List.getElem?_cons_zero]; rfl) (by kernel_rfl) (by kernel_rfl) (by kernel_rfl) (fun _ _ _ h => h) (Or.inl ⟨by rfl, ?_⟩) (by assumption) ?_
      rotate_left 1
      · (intro w hSw; (try dsimp only at hSw); go_simp; try with_reducible rfl)
      try simp only [Act.put, List.setIfInBounds_toArray, List.set_cons_zero, List.set_cons_succ]
      refine wpAnyH_take (i := 9) (v := ?_) (by simp only [List.getElem?_toArray, List.getElem?_cons_succ, List.getElem?_cons_zero]; rfl) (by kernel_rfl) (by kernel_rfl) (by kernel_rfl) (fun _ _ _ h => h) (Or.inl ⟨by rfl, ?_⟩) (by assumption) ?_
      rotate_left 1
      · (intro w hSw; (try dsimp only at hSw); go_simp; try with_reducible rfl)
      try simp only [Act.put, List.setIfInBounds_toArray, List.set_cons_zero, List.set_cons_succ]
      refine wpAnyH_take (i := 10) (v := ?_) (by simp only [List.getElem?_toArray, List.getElem?_cons_succ, List.getElem?_cons_zero]; rfl) (by kernel_rfl) (by kernel_rfl) (by kernel_rfl) (fun _ _ _ h => h) (Or.inl ⟨by rfl, ?_⟩) (by assumption) ?_
      rotate_left 1
      · (intro w hSw; (try dsimp only at hSw); go_simp; try with_reducible rfl)
      try simp only [Act.put, List.setIfInBounds_toArray, List.set_cons_zero, List.set_cons_succ]
      refine wpAnyH_take (i := 11) (v := ?_) (by simp only [List.getElem?_toArray, List.getElem?_cons_succ, List.getElem?_cons_zero]; rfl) (by kernel_rfl) (by kernel_rfl) (by kernel_rfl) (fun _ _ _ h => h) (Or.inl ⟨by rfl, ?_⟩) (by assumption) ?_
      rotate_left 1
      · (intro w hSw; (try dsimp only at hSw); go_simp; try with_reducible rfl)
      try simp only [Act.put, List.setIfInBounds_toArray, List.set_cons_zero, List.set_cons_succ]
      refine wpAnyH_take (i := 12) (v := ?_) (by simp only [List.getElem?_toArray, List.getElem?_cons_succ, List.getElem?_cons_zero]; rfl) (by kernel_rfl) (by kernel_rfl) (by kernel_rfl) (fun _ _ _ h => h) (Or.inl ⟨by rfl, ?_⟩) (by assumption) ?_
      rotate_left 1
      · (intro w hSw; (try dsimp only at hSw); go_simp; try with_reducible rfl)
      try simp only [Act.put, List.setIfInBounds_toArray, List.set_cons_zero, List.set_cons_succ]
      refine wpAnyH_take (i := 13) (v := ?_) (by simp only [List.getElem?_toArray, List.getElem?_cons_succ, List.getElem?_cons_zero]; rfl) (by kernel_rfl) (by kernel_rfl) (by kernel_rfl) (fun _ _ _ h => h) (Or.inl ⟨by rfl, ?_⟩) (by assumption) ?_
      rotate_left 1
      · (intro w hSw; (try dsimp only at hSw); go_simp; try with_reducible rfl)
      try simp only [Act.put, List.setIfInBounds_toArray, List.set_cons_zero, List.set_cons_succ]
      refine wpAnyH_take (i := 14) (v := ?_) (by simp only [List.getElem?_toArray, List.getElem?_cons_succ, List.getElem?_cons_zero]; rfl) (by kernel_rfl) (by kernel_rfl) (by kernel_rfl) (fun _ _ _ h => h) (Or.inl ⟨by rfl, ?_⟩) (by assumption) ?_
      rotate_left 1
      · (intro w hSw; (try dsimp only at hSw); go_simp; try with_reducible rfl)
      try simp only [Act.put, List.setIfInBounds_toArray, List.set_cons_zero, List.set_cons_succ]
      refine wpAnyH_ready (rs := [15]) (by kernel_rfl) (by simp) ?_
      refine AllReadyH.cons (by simp only [List.getElem?_toArray, List.getElem?_cons_succ, List.getElem?_cons_zero]; rfl) (fun K hK => ?_) ?_
      rotate_left 1
      · exact AllReadyH.nil
      go_simp
      refine hK.out _ _ ?_ (fun hHeld2 => ?_)
      · ((try dsimp only) <;> (first | trivial | assumption | go_keep))
      clear hHeld
      have hHeld := hHeld2
      clear hHeld2 hK K
      try simp only [Act.put, List.setIfInBounds_toArray, List.set_cons_zero, List.set_cons_succ]
      refine wpAnyH_done (by kernel_rfl) ?_ _
      refine NoPanic.normal ?_
      go_wp2_with fail
      go_roundw
      case rel =>
        refine ⟨j + 1, by omega, by go_num, P1.out.drew, ?_, ?_, P4.out.drew⟩
        · obtain ⟨z0, z1, z2, z3, hz⟩ := P2.out
          exact ⟨z0, z1, z2, z3, hz.drew⟩
        · rw [hst.out]
          rw [show strC ((putQ (D.queue.take j) D.sure).set x.1 x.2) = (strC (putQ (D.queue.take j) D.sure)).set x.1 (.string (txt x.2)) by simp [strC, List.map_set]]
          exact P3.out
      case measure => simp [intOf]; omega
    · have hjn : j = D.queue.length := by omega
      have hall : D.queue.take j = D.queue := List.take_of_length_le (by omega)
      rw [hall] at G3
      obtain ⟨c0, c1, c2, c3, f0, f1, f2, f3⟩ := blk4 G1.out
      obtain ⟨z0, z1, z2, z3, hz⟩ := G2.out
      obtain ⟨d0, d1, d2, d3, e0, e1, e2, e3⟩ := blk4 hz
      clear hall hjn hz
      go_wp2_with fail
      refine bodyPost_ret (v := .tuple #[.agg #[.slice A3 D.sure.length cA, .slice none 0 0, .int .i64 st, .int .i64 lf], .int .i64 0]) (by simp [results, Try.results46, go_sem, d0, d1, d2, d3]) rfl ?_
      have hbel := bel4 (G4.out.setCell (p := ⟨w.heap.size, 1, none⟩) (Nat.le_refl _) (.slice none 0 0)) (Nat.le_succ w.heap.size) (.slice A3 D.sure.length cA) (.slice none 0 0) (.int .i64 st) (.int .i64 lf)
      have hk : Kp [w.heap.size, w.heap.size + 1] wr _ := ((((((Kp.refl _ wr).set (p := ⟨w.heap.size, 1, none⟩) (.inl (by simp)) (.slice none 0 0)).set (p := ⟨w.heap.size + 1, 0, none⟩) (.inl (by simp)) (.slice A3 D.sure.length cA)).set (p := ⟨w.heap.size + 1, 1, none⟩) (.inl (by simp)) (.slice none 0 0)).set (p := ⟨w.heap.size + 1, 2, none⟩) (.inl (by simp)) (.int .i64 st)).set (p := ⟨w.heap.size + 1, 3, none⟩) (.inl (by simp)) (.int .i64 lf))
      have hlen : D.barred.sure.length = D.sure.length := putQ_len _ _
      refine ⟨A3, cA, ?_, ⟨?_, World.ownsRow_nil _ _ _ _, hok.out⟩, hbel, fun g hg => ?_⟩
      · rw [hlen, show (D.barred.steps : Int) = st from hst.out, show D.barred.left = lf from hlf.out]
        rfl
      · rw [hlen]
        exact own_base65 (own_kp G3.out hk (fun g hg => by
          have := Ha2.out g hg
          simp; omega)) hbs
      · have := Ha2.out g (by rw [← hg]; exact ob _ _ _)
        omega
end Go.Proofs.Ytfaingklglelnaa
