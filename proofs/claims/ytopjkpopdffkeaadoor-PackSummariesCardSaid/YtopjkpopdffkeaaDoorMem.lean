/- Words for memory: a slice that reads as a list; bytes as values; what a call leaves as it was. -/
import Derived.Below
import Derived.WalkKit
import Derived.WalkSpells
import Derived.WalkLawsBesides
import Derived.Laws.BytesArg
import Derived.Maps.AppendAt
set_option linter.unusedVariables false
set_option linter.unusedSimpArgs false
namespace Go.Proofs.YtopjkpopdffkeaaDoor
open Go.RowKit

/-- A fact kept from the walk. -/
theorem hide {p : Prop} (h : p) : Hid p := h

theorem bel_dN {B : Nat} {a w : World} (h : Below B a w) (n : Nat) : Below B a (w.drewN n) := ⟨h.os, h.tape, h.output, h.size, h.block⟩

/-- The slice value at A of length n holds the cells xs, in a block below B. -/
structure Sl (w : World) (B : Nat) (A : Option Addr) (n : Nat) (xs : List Value) : Prop where
  len : xs.length = n
  cells : ∀ j u, xs[j]? = some u → ∃ ad, A = some ad ∧ ad.block < B ∧ w.cell? (ad.add j) = some u

theorem addr_block (a : Addr) (n : Nat) : (a.add n).block = a.block := by unfold Addr.add; split <;> rfl
theorem addr_add2 (a : Addr) (i j : Nat) : (a.add i).add j = a.add (i + j) := by
  unfold Addr.add
  by_cases hi : i = 0 <;> by_cases hj : j = 0 <;> simp [hi, hj, Nat.add_assoc]

/-- The address of what begins at i, where there is room for c. -/
def cutA (A : Option Addr) (c i : Nat) : Option Addr := if c = i then A else A.map (·.add i)
theorem cutA_zero (A : Option Addr) (c : Nat) : (if c = 0 then A else A.map (·.add (0 * 1))) = A := by
  split
  · rfl
  · cases A <;> simp [Addr.add]

section
variable {w w' : World} {B B' n : Nat} {A : Option Addr} {xs : List Value}
theorem Sl.nil_ : Sl w B A 0 [] := ⟨rfl, fun j u h => by simp at h⟩
theorem Sl.keep (h : Sl w B A n xs) (hk : ∀ p : Addr, p.block < B → w'.cell? p = w.cell? p) : Sl w' B A n xs :=
  ⟨h.len, fun j u hu => by
    obtain ⟨ad, e, hb, hc⟩ := h.cells j u hu
    exact ⟨ad, e, hb, (hk _ (by rw [addr_block]; exact hb)).trans hc⟩⟩
theorem Sl.more (h : Sl w B A n xs) (hB : B ≤ B') : Sl w B' A n xs :=
  ⟨h.len, fun j u hu => by
    obtain ⟨ad, e, hb, hc⟩ := h.cells j u hu
    exact ⟨ad, e, by omega, hc⟩⟩
theorem Sl.below (h : Sl w B A n xs) (hb : Below B w w') : Sl w' B A n xs := h.keep fun _ hp => hb.cell hp
theorem Sl.drew (h : Sl w B A n xs) : Sl w.drew B A n xs := h.keep fun _ _ => rfl
theorem Sl.drewN (h : Sl w B A n xs) (k : Nat) : Sl (w.drewN k) B A n xs := h.keep fun _ _ => rfl
theorem Sl.alloc (h : Sl w B A n xs) (hB : B ≤ w.heap.size) (o : Obj) : Sl (w.alloc o) B A n xs := h.keep fun p hp => World.cell?_alloc_lt w o p (by omega)
theorem Sl.setCell (h : Sl w B A n xs) {p : Addr} (hB : B ≤ p.block) (u : Value) : Sl (w.setCell p u) B A n xs :=
  h.keep fun q hq => World.cell?_setCell_other w p q u (fun e => by subst e; omega)
theorem Sl.get (h : Sl w B A n xs) {k : Nat} (hk : k < n) : ∃ ad u, A = some ad ∧ ad.block < B ∧ xs[k]? = some u ∧ w.cell? (ad.add k) = some u := by
  have hl : k < xs.length := by rw [h.len]; exact hk
  obtain ⟨ad, e, hb, hc⟩ := h.cells k _ (List.getElem?_eq_getElem hl)
  exact ⟨ad, _, e, hb, List.getElem?_eq_getElem hl, hc⟩
/-- A part of a slice, as the model writes its address. -/
theorem Sl.cut (h : Sl w B A n xs) {i j cap : Nat} (hij : i ≤ j) (hj : j ≤ n) (hc : j ≤ cap) :
    Sl w B (cutA A cap i) (j - i) ((xs.drop i).take (j - i)) := by
  unfold cutA
  refine ⟨by rw [List.length_take, List.length_drop, h.len]; omega, fun k u hu => ?_⟩
  rw [List.getElem?_take] at hu
  split at hu
  · rename_i hk
    rw [List.getElem?_drop] at hu
    obtain ⟨ad, rfl, hb, hcell⟩ := h.cells (i + k) u hu
    rw [if_neg (by omega)]
    exact ⟨ad.add i, rfl, by rw [addr_block]; exact hb, by rw [addr_add2]; exact hcell⟩
  · cases hu
end

/-- Bytes as cells. -/
def u8s (l : List UInt8) : List Value := l.map fun b => Value.int .u8 (b.toNat : Int)
theorem u8s_length (l : List UInt8) : (u8s l).length = l.length := by simp [u8s]
theorem u8s_nil : u8s [] = [] := rfl
theorem u8s_append (a b : List UInt8) : u8s (a ++ b) = u8s a ++ u8s b := List.map_append
theorem u8s_drop (l : List UInt8) (k : Nat) : (u8s l).drop k = u8s (l.drop k) := List.map_drop.symm
theorem u8s_take (l : List UInt8) (k : Nat) : (u8s l).take k = u8s (l.take k) := List.map_take.symm
theorem u8s_get (l : List UInt8) (k : Nat) : (u8s l)[k]? = l[k]?.map fun b => Value.int .u8 (b.toNat : Int) := by simp [u8s]
theorem u8s_one (l : List UInt8) : ∀ u ∈ u8s l, u.oneCell' = true := by
  intro u hu
  obtain ⟨b, _, rfl⟩ := List.mem_map.1 hu
  rfl

/-- A slice of bytes. -/
abbrev By (w : World) (B : Nat) (A : Option Addr) (n : Nat) (l : List UInt8) : Prop := Sl w B A n (u8s l)
theorem By.get {w : World} {B : Nat} {A : Option Addr} {n : Nat} {l : List UInt8} (h : By w B A n l) {k : Nat} (hk : k < n) :
    ∃ (hl : k < l.length) (ad : Addr), A = some ad ∧ w.cell? (ad.add k) = some (.int .u8 (l[k].toNat : Int)) := by
  have hl : k < l.length := by have := h.len; rw [u8s_length] at this; omega
  obtain ⟨ad, u, e, _, hx, hc⟩ := Sl.get h hk
  rw [u8s_get, List.getElem?_eq_getElem hl] at hx
  simp only [Option.map_some, Option.some.injEq] at hx
  exact ⟨hl, ad, e, by rw [hc, ← hx]⟩
theorem By.length {w : World} {B : Nat} {A : Option Addr} {n : Nat} {l : List UInt8} (h : By w B A n l) : l.length = n := by
  have := h.len; rwa [u8s_length] at this


/-- What the program says of an element type of one cell. -/
structure Ety (P : Program) (t e : TypeId) (z : Value) (bytes : Nat) : Prop where
  under : P.underlying t = some (.slice e)
  info : ∃ i, P.info? e = some i ∧ i.zero = some z ∧ i.size = 1 ∧ i.bytes = bytes
  one : z.cells.size = 1
  pos : 0 < bytes
theorem Ety.mk' {P : Program} {t e : TypeId} {z : Value} {bytes : Nat} (ht : P.underlying t = some (.slice e))
    (h : (P.info? e).map (fun i => (i.zero, i.size, i.bytes)) = some (some z, 1, bytes)) (h1 : z.cells.size = 1) (hp : 0 < bytes) : Ety P t e z bytes := by
  obtain ⟨i, hi, h0, h1', h2⟩ := info_parts h
  exact ⟨ht, ⟨i, hi, h0, h1', h2⟩, h1, hp⟩

section
variable {P : Program} {t e : TypeId} {z : Value} {bytes : Nat} (hE : Ety P t e z bytes) (A : Option Addr) (n c : Nat) (w : World)
include hE
theorem run_cut_h (k : Nat) (kd : IntKind) (hk : k ≤ c) :
    (Instr.slice t (.slice A n c) none (some (.int kd (k : Int))) none).run P w = .ok (.slice A k c) w := by
  obtain ⟨i, hi, hz, hs, hb⟩ := hE.info
  simp [Instr.slice, run_underlying hE.under, sizeOf, typeInfo, hi, hs, Instr.sliceBounds, Instr.sliceBound, asIntOf, hk]
  have := cutA_zero A c
  simpa using this
theorem run_cut_l (k : Nat) (kd : IntKind) (hk : k ≤ n) :
    (Instr.slice t (.slice A n c) (some (.int kd (k : Int))) none none).run P w = .ok (.slice (cutA A c k) (n - k) (c - k)) w := by
  obtain ⟨i, hi, hz, hs, hb⟩ := hE.info
  simp [Instr.slice, run_underlying hE.under, sizeOf, typeInfo, hi, hs, Instr.sliceBounds, Instr.sliceBound, asIntOf, hk, cutA]
theorem run_cut_lh (k h : Nat) (kd kd' : IntKind) (hk : k ≤ h) (hh : h ≤ c) :
    (Instr.slice t (.slice A n c) (some (.int kd (k : Int))) (some (.int kd' (h : Int))) none).run P w = .ok (.slice (cutA A c k) (h - k) (c - k)) w := by
  obtain ⟨i, hi, hz, hs, hb⟩ := hE.info
  simp [Instr.slice, run_underlying hE.under, sizeOf, typeInfo, hi, hs, Instr.sliceBounds, Instr.sliceBound, asIntOf, hk, hh, cutA]
theorem run_cut_hm (h m : Nat) (kd kd' : IntKind) (hk : h ≤ m) (hh : m ≤ c) :
    (Instr.slice t (.slice A n c) none (some (.int kd (h : Int))) (some (.int kd' (m : Int)))).run P w = .ok (.slice A h m) w := by
  obtain ⟨i, hi, hz, hs, hb⟩ := hE.info
  simp [Instr.slice, run_underlying hE.under, sizeOf, typeInfo, hi, hs, Instr.sliceBounds, Instr.sliceBound, asIntOf, hk, hh]
  have := cutA_zero A m
  simpa using this
end
theorem Sl.head {w : World} {B n : Nat} {A : Option Addr} {xs : List Value} (h : Sl w B A n xs) {k : Nat} (hk : k ≤ n) : Sl w B A k (xs.take k) := by
  refine ⟨by rw [List.length_take, h.len]; omega, fun j u hu => ?_⟩
  rw [List.getElem?_take] at hu
  split at hu
  · exact h.cells j u hu
  · cases hu
theorem Sl.tail {w : World} {B n : Nat} {A : Option Addr} {xs : List Value} (h : Sl w B A n xs) {k c : Nat} (hk : k ≤ n) (hc : n ≤ c) : Sl w B (cutA A c k) (n - k) (xs.drop k) := by
  have := h.cut (i := k) (j := n) (cap := c) hk (Nat.le_refl _) hc
  rwa [List.take_of_length_le (by rw [List.length_drop, h.len]; exact Nat.le_refl _)] at this

theorem own_form {w : World} {base n : Nat} {e : TypeId} {v : Value} {xs : List Value} (h : w.ownsRow base e 1 v n xs) :
    ∃ A c, v = .slice A n c ∧ n ≤ c ∧ c ≤ maxLen := by
  rcases h.2 with ⟨rfl, rfl⟩ | ⟨g, cap, cur, rfl, _, _, h1, h2, _, _⟩
  · exact ⟨none, 0, rfl, Nat.le_refl _, by simp [maxLen]⟩
  · exact ⟨_, cap, rfl, h1, h2⟩
theorem Sl.of_own {w : World} {base n c : Nat} {e : TypeId} {A : Option Addr} {xs : List Value} (h : w.ownsRow base e 1 (.slice A n c) n xs) : Sl w w.heap.size A n xs := by
  refine ⟨by have := h.1; omega, fun j u hu => ?_⟩
  rcases h.2 with ⟨h1, h2⟩ | ⟨g, cap, cur, h1, _, hg, hnc, hcm, hcs, ht⟩
  · have := h.1
    subst h2
    have : xs = [] := List.eq_nil_of_length_eq_zero (by omega)
    subst this
    simp at hu
  · injection h1 with h1 _ _
    subst h1
    exact ⟨_, rfl, (h.lt g rfl).2, h.cells (g := g) rfl j u hu⟩

section
variable {P : Program} (w : World)
/-- append onto a row of the call's own; the source nil, empty or not. -/
theorem run_app {t ty e : TypeId} {z : Value} {bytes : Nat} (hE : Ety P t e z bytes) (base : Nat) (v : Value) (n : Nat) (xs : List Value) (hown : w.ownsRow base e 1 v n xs)
    (B : Nat) (A : Option Addr) (m c : Nat) (news : List Value) (hr : Sl w B A m news) (h1 : ∀ u ∈ news, u.oneCell' = true)
    (hbytes : (n + m) * bytes ≤ 140737488355328) (hbase : base ≤ w.heap.size) :
    ∃ A' c' w', (Builtin.append_ #[t, t] ty #[v, .slice A m c]).run P w = .ok (.slice A' (n + m) c') w' ∧ w'.ownsRow base e 1 (.slice A' (n + m) c') (n + m) (xs ++ news) ∧
      w.grownBy w' v.ownBlock ∧ ((Value.slice A' (n + m) c').ownBlock = v.ownBlock ∨ (Value.slice A' (n + m) c').ownBlock = some w.heap.size) := by
  obtain ⟨i, hi, hz, hs, hb⟩ := hE.info
  have hle : n + m ≤ 140737488355328 := Nat.le_trans (Nat.le_mul_of_pos_right _ hE.pos) hbytes
  have h63 : n + m ≤ maxLen := by simp only [maxLen]; omega
  rcases A with _ | ad
  · have hm : m = 0 := by
      rcases Nat.eq_zero_or_pos m with h0 | h0
      · exact h0
      · obtain ⟨ad, u, h, _⟩ := hr.get h0
        cases h
    subst hm
    have hn : news = [] := List.eq_nil_of_length_eq_zero hr.len
    subst hn
    obtain ⟨A, c1, rfl, _, _⟩ := own_form hown
    refine ⟨A, c1, w, ?_, by simpa using hown, ⟨rfl, rfl, rfl, Nat.le_refl _, fun _ _ _ => rfl⟩, .inl rfl⟩
    rcases hown.2 with ⟨hv, rfl⟩ | ⟨g, cap, cur, hv, _, _, hnc, _⟩
    · injection hv with hv1 _ hv2
      subst hv1 hv2
      simp [Builtin.append_, run_underlying hE.under, sizeOf, typeInfo, hi, Builtin.lenOf, Builtin.firstCells]
    · injection hv with hv1 _ hv2
      subst hv1 hv2
      simp [Builtin.append_, run_underlying hE.under, sizeOf, typeInfo, hi, Builtin.lenOf, Builtin.firstCells, hnc, storeCells]
  · have hcells : ∀ j u, news[j]? = some u → w.cell? (ad.add j) = some u := by
      intro j u hu
      obtain ⟨ad', h, _, hc⟩ := hr.cells j u hu
      injection h with h
      subst h
      exact hc
    obtain ⟨v', w', hrun, h2, h3, _, h5⟩ := run_append_own_at (P := P) w base t ty e i z 1 bytes hE.under hi hz hs hb hE.one (by omega) v n xs hown ad m c news (by rw [hr.len]; omega) hcells h1 h63 hbytes hbase
    obtain ⟨A', c', rfl, _, _⟩ := own_form h2
    exact ⟨A', c', w', hrun, h2, h3, h5⟩

theorem wp_app {o : Oper} {a : Act} {K : Act → World → Prop} {Q : Exit → Act → World → Prop} (s x : Operand) (t : TypeId)
    (ho : o.op = .call { callee := .builtin .append, args := #[s, x], argTypes := #[t, t] })
    {e : TypeId} {z : Value} {bytes : Nat} (hE : Ety P t e z bytes) (base : Nat) (v : Value) (n : Nat) (xs : List Value) (hs : a.eval s = v) (hown : w.ownsRow base e 1 v n xs)
    (B : Nat) (A : Option Addr) (m c : Nat) (news : List Value) (hx : a.eval x = .slice A m c) (hr : Sl w B A m news) (h1 : ∀ u ∈ news, u.oneCell' = true)
    (hbytes : (n + m) * bytes ≤ 140737488355328) (hbase : base ≤ w.heap.size)
    (h : ∀ A' c' w', w'.ownsRow base e 1 (.slice A' (n + m) c') (n + m) (xs ++ news) → w.grownBy w' v.ownBlock →
      ((Value.slice A' (n + m) c').ownBlock = v.ownBlock ∨ (Value.slice A' (n + m) c').ownBlock = some w.heap.size) → K (a.put o.dst (.slice A' (n + m) c')) w') : o.wp P a w K Q := by
  obtain ⟨A', c', w', hrun, h2, h3, h4⟩ := run_app (P := P) w (ty := o.type) hE base v n xs hown B A m c news hr h1 hbytes hbase
  unfold Oper.wp execOp
  simp only [ho, resolve, invoke, builtin, Sem.run_bind, Sem.run_pure, Result.andThen_ok, List.map_toArray, List.map_cons, List.map_nil, hs, hx, hrun]
  exact h A' c' w' h2 h3 h4

theorem wpList_app {ops : Array Oper} {rest : List Oper} {o : Oper} {a : Act} {Q : Exit → Act → World → Prop} (hgd : o.guard = none) (s x : Operand) (t : TypeId)
    (ho : o.op = .call { callee := .builtin .append, args := #[s, x], argTypes := #[t, t] })
    {e : TypeId} {z : Value} {bytes : Nat} (hE : Ety P t e z bytes) (base : Nat) (v : Value) (n : Nat) (xs : List Value) (hs : a.eval s = v) (hown : w.ownsRow base e 1 v n xs)
    (B : Nat) (A : Option Addr) (m c : Nat) (news : List Value) (hx : a.eval x = .slice A m c) (hr : Sl w B A m news) (h1 : ∀ u ∈ news, u.oneCell' = true)
    (hbytes : (n + m) * bytes ≤ 140737488355328) (hbase : base ≤ w.heap.size)
    (h : ∀ A' c' w', w'.ownsRow base e 1 (.slice A' (n + m) c') (n + m) (xs ++ news) → w.grownBy w' v.ownBlock →
      ((Value.slice A' (n + m) c').ownBlock = v.ownBlock ∨ (Value.slice A' (n + m) c').ownBlock = some w.heap.size) → wpList P ops Q rest (a.put o.dst (.slice A' (n + m) c')) w') : wpList P ops Q (o :: rest) a w :=
  wpList_plain hgd fun _ hK => wp_app w s x t ho hE base v n xs hs hown B A m c news hx hr h1 hbytes hbase fun A' c' w' h2 h3 h4 => hK _ _ (h A' c' w' h2 h3 h4)

/-- The text of bytes. -/
def txt (l : List UInt8) : ByteArray := ⟨l.toArray⟩
theorem txt_toList (l : List UInt8) : (txt l).data.toList = l := rfl
theorem txt_inj {a b : List UInt8} (h : txt a = txt b) : a = b := by
  have := congrArg (fun s : ByteArray => s.data.toList) h; exact this
theorem txt_ne {a b : List UInt8} (h : a ≠ b) : ((txt a).toList == (txt b).toList) = false := by
  simp [txt, h]
theorem txt_eq (a : List UInt8) : ((txt a).toList == (txt a).toList) = true := by simp
theorem run_conv_txt {src dst e : TypeId} (hs : P.underlying src = some (.slice e)) (he : P.underlying e = some (.int .u8)) (hd : P.underlying dst = some .string)
    {B : Nat} {A : Option Addr} {n : Nat} (c : Nat) {l : List UInt8} (h : By w B A n l) : (convert src dst (.slice A n c)).run P w = .ok (.string (txt l)) w := by
  by_cases hn : n = 0
  · subst hn
    have : l = [] := List.eq_nil_of_length_eq_zero h.length
    subst this
    rcases A with _ | ad
    · exact run_convert_bytes_nil w src e hs he 0 c dst hd
    · rw [run_convert_bytes_string w src dst e _ 0 c hs he hd]
      exact run_bytesToString w ad 0 c [] (by simp [loadCells, loadCellsFrom])
  · obtain ⟨hl, ad, rfl, h0⟩ := By.get h (show 0 < n by omega)
    obtain ⟨b, off, spot⟩ := ad
    have hsp : spot = none := World.cell?_spot (by simpa [Addr.add] using h0)
    subst hsp
    have hlen := h.length
    have := run_convert_bytes_arg (P := P) w src e hs he b off n c (l.map fun x => (x.toNat : Int)) (by simp [hlen]) (fun i hi => by
      obtain ⟨hl', ad', e', hc⟩ := By.get h hi
      injection e' with e'
      subst e'
      have : (Addr.mk b off none).add i = ⟨b, off + i, none⟩ := by unfold Addr.add; split <;> simp_all
      rw [this] at hc
      rw [hc]
      simp [List.getD, hl']) dst hd
    rw [this]
    have : strOfNums (l.map fun x => (x.toNat : Int)) = txt l := by
      unfold strOfNums txt
      congr 1
      simp [List.map_map, Function.comp_def]
    rw [this]
end

/-- A slice of bytes that came in, as the shells of the proofs have it. -/
theorem by_of_row {w : World} {x : Addr} {len : Nat} {zs : List Int} (hl : len ≤ zs.length) (hc : ∀ i, i < zs.length → w.cell? (x.add i) = some (.int .u8 (zs.getD i 0)))
    (hwf : ∀ n ∈ zs, (Lit.int .u8 n).wf = true) : ∃ l, By w w.heap.size (some x) len l := by
  have hb : ∀ n ∈ zs, 0 ≤ n ∧ n < 256 := by
    intro n hn
    have := hwf n hn
    simp [Lit.wf, IntKind.min, IntKind.max, IntKind.signed, IntKind.bits] at this
    omega
  refine ⟨(zs.take len).map fun n => UInt8.ofNat n.toNat, by simp [u8s]; omega, fun j u hu => ?_⟩
  rw [u8s_get, List.getElem?_map, List.getElem?_take] at hu
  split at hu
  · rename_i hj
    have hj' : j < zs.length := by omega
    rw [List.getElem?_eq_getElem hj'] at hu
    simp only [Option.map_some, Option.some.injEq] at hu
    have h1 := hc j hj'
    have h2 := hb zs[j] (List.getElem_mem hj')
    refine ⟨x, rfl, ?_, ?_⟩
    · have : w.cell? (x.add j) ≠ none := by rw [h1]; simp
      rcases Nat.lt_or_ge x.block w.heap.size with h | h
      · exact h
      · exfalso
        apply this
        unfold World.cell?
        rw [addr_block, Array.getElem?_eq_none h]
    · rw [h1, ← hu, List.getD, List.getElem?_eq_getElem hj', Option.getD_some]
      congr 2
      rw [UInt8.toNat_ofNat']
      omega
  · cases hu
end Go.Proofs.YtopjkpopdffkeaaDoor
