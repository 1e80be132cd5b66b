import Derived.Below
import Derived.WalkKit
import Derived.WalkSpells
import Derived.WalkLawsBesides
import Derived.Laws.BytesArg
import Derived.Maps.AppendAt
import Derived.Test.YtbamdibpkkponaaDoorProg
import Derived.Lib.AppendZerosOnto
import Derived.Laws.MakeOwn
import Derived.Deep.RegionWith
import Derived.Deep.RegionHeld3
import Derived.Deep.MidRow
import Derived.Great.FillDense
import Derived.Great.BuildSlice
import Derived.ProofKit
import Derived.OpenShut
import Derived.Deep.Slices
set_option linter.unusedVariables false
set_option linter.unusedSimpArgs false
/- Words for memory: a slice that reads as a list; bytes as values; what a call leaves as it was. -/
namespace Go.Proofs.YtbamdibpkkponaaDoor
open Go.RowKit

/-- A fact kept from the walk. -/
theorem hide {p : Prop} (h : p) : Hid p := h

theorem bel_dN {B : Nat} {a w : World} (h : Below B a w) (n : Nat) : Below B a (w.drewN n) := ⟨h.os, h.tape, h.output, h.size, h.block⟩

/-- The slice value at A of length n holds the cells xs, in a block below B. -/
structure Sl (w : World) (B : Nat) (A : Option Addr) (n : Nat) (xs : List Value) : Prop where
  len : xs.length = n
  cells : ∀ j u, xs[j]? = some u → ∃ ad, A = some ad ∧ ad.block < B ∧ w.cell? (ad.add j) = some u

theorem addr_block (a : Addr) (n : Nat) : (a.add n).block = a.block := by unfold Addr.add; split <;> rfl
theorem addr_add2 (a : Addr) (i j : Nat) : (a.add i).add j = a.add (i + j) := by
  unfold Addr.add
  by_cases hi : i = 0 <;> by_cases hj : j = 0 <;> simp [hi, hj, Nat.add_assoc]

/-- The address of what begins at i, where there is room for c. -/
def cutA (A : Option Addr) (c i : Nat) : Option Addr := if c = i then A else A.map (·.add i)
theorem cutA_zero (A : Option Addr) (c : Nat) : (if c = 0 then A else A.map (·.add (0 * 1))) = A := by
  split
  · rfl
  · cases A <;> simp [Addr.add]

section
variable {w w' : World} {B B' n : Nat} {A : Option Addr} {xs : List Value}
theorem Sl.nil_ : Sl w B A 0 [] := ⟨rfl, fun j u h => by simp at h⟩
theorem Sl.keep (h : Sl w B A n xs) (hk : ∀ p : Addr, p.block < B → w'.cell? p = w.cell? p) : Sl w' B A n xs :=
  ⟨h.len, fun j u hu => by
    obtain ⟨ad, e, hb, hc⟩ := h.cells j u hu
    exact ⟨ad, e, hb, (hk _ (by rw [addr_block]; exact hb)).trans hc⟩⟩
theorem Sl.more (h : Sl w B A n xs) (hB : B ≤ B') : Sl w B' A n xs :=
  ⟨h.len, fun j u hu => by
    obtain ⟨ad, e, hb, hc⟩ := h.cells j u hu
    exact ⟨ad, e, by omega, hc⟩⟩
theorem Sl.below (h : Sl w B A n xs) (hb : Below B w w') : Sl w' B A n xs := h.keep fun _ hp => hb.cell hp
theorem Sl.drew (h : Sl w B A n xs) : Sl w.drew B A n xs := h.keep fun _ _ => rfl
theorem Sl.drewN (h : Sl w B A n xs) (k : Nat) : Sl (w.drewN k) B A n xs := h.keep fun _ _ => rfl
theorem Sl.alloc (h : Sl w B A n xs) (hB : B ≤ w.heap.size) (o : Obj) : Sl (w.alloc o) B A n xs := h.keep fun p hp => World.cell?_alloc_lt w o p (by omega)
theorem Sl.setCell (h : Sl w B A n xs) {p : Addr} (hB : B ≤ p.block) (u : Value) : Sl (w.setCell p u) B A n xs :=
  h.keep fun q hq => World.cell?_setCell_other w p q u (fun e => by subst e; omega)
theorem Sl.get (h : Sl w B A n xs) {k : Nat} (hk : k < n) : ∃ ad u, A = some ad ∧ ad.block < B ∧ xs[k]? = some u ∧ w.cell? (ad.add k) = some u := by
  have hl : k < xs.length := by rw [h.len]; exact hk
  obtain ⟨ad, e, hb, hc⟩ := h.cells k _ (List.getElem?_eq_getElem hl)
  exact ⟨ad, _, e, hb, List.getElem?_eq_getElem hl, hc⟩
/-- A part of a slice, as the model writes its address. -/
theorem Sl.cut (h : Sl w B A n xs) {i j cap : Nat} (hij : i ≤ j) (hj : j ≤ n) (hc : j ≤ cap) :
    Sl w B (cutA A cap i) (j - i) ((xs.drop i).take (j - i)) := by
  unfold cutA
  refine ⟨by rw [List.length_take, List.length_drop, h.len]; omega, fun k u hu => ?_⟩
  rw [List.getElem?_take] at hu
  split at hu
  · rename_i hk
    rw [List.getElem?_drop] at hu
    obtain ⟨ad, rfl, hb, hcell⟩ := h.cells (i + k) u hu
    rw [if_neg (by omega)]
    exact ⟨ad.add i, rfl, by rw [addr_block]; exact hb, by rw [addr_add2]; exact hcell⟩
  · cases hu
end

/-- Bytes as cells. -/
def u8s (l : List UInt8) : List Value := l.map fun b => Value.int .u8 (b.toNat : Int)
theorem u8s_length (l : List UInt8) : (u8s l).length = l.length := by simp [u8s]
theorem u8s_nil : u8s [] = [] := rfl
theorem u8s_append (a b : List UInt8) : u8s (a ++ b) = u8s a ++ u8s b := List.map_append
theorem u8s_drop (l : List UInt8) (k : Nat) : (u8s l).drop k = u8s (l.drop k) := List.map_drop.symm
theorem u8s_take (l : List UInt8) (k : Nat) : (u8s l).take k = u8s (l.take k) := List.map_take.symm
theorem u8s_get (l : List UInt8) (k : Nat) : (u8s l)[k]? = l[k]?.map fun b => Value.int .u8 (b.toNat : Int) := by simp [u8s]
theorem u8s_one (l : List UInt8) : ∀ u ∈ u8s l, u.oneCell' = true := by
  intro u hu
  obtain ⟨b, _, rfl⟩ := List.mem_map.1 hu
  rfl

/-- A slice of bytes. -/
abbrev By (w : World) (B : Nat) (A : Option Addr) (n : Nat) (l : List UInt8) : Prop := Sl w B A n (u8s l)
theorem By.get {w : World} {B : Nat} {A : Option Addr} {n : Nat} {l : List UInt8} (h : By w B A n l) {k : Nat} (hk : k < n) :
    ∃ (hl : k < l.length) (ad : Addr), A = some ad ∧ w.cell? (ad.add k) = some (.int .u8 (l[k].toNat : Int)) := by
  have hl : k < l.length := by have := h.len; rw [u8s_length] at this; omega
  obtain ⟨ad, u, e, _, hx, hc⟩ := Sl.get h hk
  rw [u8s_get, List.getElem?_eq_getElem hl] at hx
  simp only [Option.map_some, Option.some.injEq] at hx
  exact ⟨hl, ad, e, by rw [hc, ← hx]⟩
theorem By.length {w : World} {B : Nat} {A : Option Addr} {n : Nat} {l : List UInt8} (h : By w B A n l) : l.length = n := by
  have := h.len; rwa [u8s_length] at this


/-- What the program says of an element type of one cell. -/
structure Ety (P : Program) (t e : TypeId) (z : Value) (bytes : Nat) : Prop where
  under : P.underlying t = some (.slice e)
  info : ∃ i, P.info? e = some i ∧ i.zero = some z ∧ i.size = 1 ∧ i.bytes = bytes
  one : z.cells.size = 1
  pos : 0 < bytes
theorem Ety.mk' {P : Program} {t e : TypeId} {z : Value} {bytes : Nat} (ht : P.underlying t = some (.slice e))
    (h : (P.info? e).map (fun i => (i.zero, i.size, i.bytes)) = some (some z, 1, bytes)) (h1 : z.cells.size = 1) (hp : 0 < bytes) : Ety P t e z bytes := by
  obtain ⟨i, hi, h0, h1', h2⟩ := info_parts h
  exact ⟨ht, ⟨i, hi, h0, h1', h2⟩, h1, hp⟩

section
variable {P : Program} {t e : TypeId} {z : Value} {bytes : Nat} (hE : Ety P t e z bytes) (A : Option Addr) (n c : Nat) (w : World)
include hE
theorem run_cut_h (k : Nat) (kd : IntKind) (hk : k ≤ c) :
    (Instr.slice t (.slice A n c) none (some (.int kd (k : Int))) none).run P w = .ok (.slice A k c) w := by
  obtain ⟨i, hi, hz, hs, hb⟩ := hE.info
  simp [Instr.slice, run_underlying hE.under, sizeOf, typeInfo, hi, Instr.sliceBounds, Instr.sliceBound, asIntOf, hk]
  have := cutA_zero A c
  simpa using this
theorem run_cut_l (k : Nat) (kd : IntKind) (hk : k ≤ n) :
    (Instr.slice t (.slice A n c) (some (.int kd (k : Int))) none none).run P w = .ok (.slice (cutA A c k) (n - k) (c - k)) w := by
  obtain ⟨i, hi, hz, hs, hb⟩ := hE.info
  simp [Instr.slice, run_underlying hE.under, sizeOf, typeInfo, hi, hs, Instr.sliceBounds, Instr.sliceBound, asIntOf, hk, cutA]
theorem run_cut_lh (k h : Nat) (kd kd' : IntKind) (hk : k ≤ h) (hh : h ≤ c) :
    (Instr.slice t (.slice A n c) (some (.int kd (k : Int))) (some (.int kd' (h : Int))) none).run P w = .ok (.slice (cutA A c k) (h - k) (c - k)) w := by
  obtain ⟨i, hi, hz, hs, hb⟩ := hE.info
  simp [Instr.slice, run_underlying hE.under, sizeOf, typeInfo, hi, hs, Instr.sliceBounds, Instr.sliceBound, asIntOf, hk, hh, cutA]
theorem run_cut_hm (h m : Nat) (kd kd' : IntKind) (hk : h ≤ m) (hh : m ≤ c) :
    (Instr.slice t (.slice A n c) none (some (.int kd (h : Int))) (some (.int kd' (m : Int)))).run P w = .ok (.slice A h m) w := by
  obtain ⟨i, hi, hz, hs, hb⟩ := hE.info
  simp [Instr.slice, run_underlying hE.under, sizeOf, typeInfo, hi, Instr.sliceBounds, Instr.sliceBound, asIntOf, hk, hh]
  have := cutA_zero A m
  simpa using this
end
theorem Sl.head {w : World} {B n : Nat} {A : Option Addr} {xs : List Value} (h : Sl w B A n xs) {k : Nat} (hk : k ≤ n) : Sl w B A k (xs.take k) := by
  refine ⟨by rw [List.length_take, h.len]; omega, fun j u hu => ?_⟩
  rw [List.getElem?_take] at hu
  split at hu
  · exact h.cells j u hu
  · cases hu
theorem Sl.tail {w : World} {B n : Nat} {A : Option Addr} {xs : List Value} (h : Sl w B A n xs) {k c : Nat} (hk : k ≤ n) (hc : n ≤ c) : Sl w B (cutA A c k) (n - k) (xs.drop k) := by
  have := h.cut (i := k) (j := n) (cap := c) hk (Nat.le_refl _) hc
  rwa [List.take_of_length_le (by rw [List.length_drop, h.len]; exact Nat.le_refl _)] at this

theorem own_form {w : World} {base n : Nat} {e : TypeId} {v : Value} {xs : List Value} (h : w.ownsRow base e 1 v n xs) :
    ∃ A c, v = .slice A n c ∧ n ≤ c ∧ c ≤ maxLen := by
  rcases h.2 with ⟨rfl, rfl⟩ | ⟨g, cap, cur, rfl, _, _, h1, h2, _, _⟩
  · exact ⟨none, 0, rfl, Nat.le_refl _, by simp [maxLen]⟩
  · exact ⟨_, cap, rfl, h1, h2⟩
theorem Sl.of_own {w : World} {base n c : Nat} {e : TypeId} {A : Option Addr} {xs : List Value} (h : w.ownsRow base e 1 (.slice A n c) n xs) : Sl w w.heap.size A n xs := by
  refine ⟨by have := h.1; omega, fun j u hu => ?_⟩
  rcases h.2 with ⟨h1, h2⟩ | ⟨g, cap, cur, h1, _, hg, hnc, hcm, hcs, ht⟩
  · have := h.1
    subst h2
    have : xs = [] := List.eq_nil_of_length_eq_zero (by omega)
    subst this
    simp at hu
  · injection h1 with h1 _ _
    subst h1
    exact ⟨_, rfl, (h.lt g rfl).2, h.cells (g := g) rfl j u hu⟩

section
variable {P : Program} (w : World)
/-- append onto a row of the call's own; the source nil, empty or not. -/
theorem run_app {t ty e : TypeId} {z : Value} {bytes : Nat} (hE : Ety P t e z bytes) (base : Nat) (v : Value) (n : Nat) (xs : List Value) (hown : w.ownsRow base e 1 v n xs)
    (B : Nat) (A : Option Addr) (m c : Nat) (news : List Value) (hr : Sl w B A m news) (h1 : ∀ u ∈ news, u.oneCell' = true)
    (hbytes : (n + m) * bytes ≤ 140737488355328) (hbase : base ≤ w.heap.size) :
    ∃ A' c' w', (Builtin.append_ #[t, t] ty #[v, .slice A m c]).run P w = .ok (.slice A' (n + m) c') w' ∧ w'.ownsRow base e 1 (.slice A' (n + m) c') (n + m) (xs ++ news) ∧
      w.grownBy w' v.ownBlock ∧ ((Value.slice A' (n + m) c').ownBlock = v.ownBlock ∨ (Value.slice A' (n + m) c').ownBlock = some w.heap.size) := by
  obtain ⟨i, hi, hz, hs, hb⟩ := hE.info
  have hle : n + m ≤ 140737488355328 := Nat.le_trans (Nat.le_mul_of_pos_right _ hE.pos) hbytes
  have h63 : n + m ≤ maxLen := by simp only [maxLen]; omega
  rcases A with _ | ad
  · have hm : m = 0 := by
      rcases Nat.eq_zero_or_pos m with h0 | h0
      · exact h0
      · obtain ⟨ad, u, h, _⟩ := hr.get h0
        cases h
    subst hm
    have hn : news = [] := List.eq_nil_of_length_eq_zero hr.len
    subst hn
    obtain ⟨A, c1, rfl, _, _⟩ := own_form hown
    refine ⟨A, c1, w, ?_, by simpa using hown, ⟨rfl, rfl, rfl, Nat.le_refl _, fun _ _ _ => rfl⟩, .inl rfl⟩
    rcases hown.2 with ⟨hv, rfl⟩ | ⟨g, cap, cur, hv, _, _, hnc, _⟩
    · injection hv with hv1 _ hv2
      subst hv1 hv2
      simp [Builtin.append_, run_underlying hE.under, sizeOf, typeInfo, hi, Builtin.lenOf, Builtin.firstCells]
    · injection hv with hv1 _ hv2
      subst hv1 hv2
      simp [Builtin.append_, run_underlying hE.under, sizeOf, typeInfo, hi, Builtin.lenOf, Builtin.firstCells, hnc, storeCells]
  · have hcells : ∀ j u, news[j]? = some u → w.cell? (ad.add j) = some u := by
      intro j u hu
      obtain ⟨ad', h, _, hc⟩ := hr.cells j u hu
      injection h with h
      subst h
      exact hc
    obtain ⟨v', w', hrun, h2, h3, _, h5⟩ := run_append_own_at (P := P) w base t ty e i z 1 bytes hE.under hi hz hs hb hE.one (by omega) v n xs hown ad m c news (by rw [hr.len]; omega) hcells h1 h63 hbytes hbase
    obtain ⟨A', c', rfl, _, _⟩ := own_form h2
    exact ⟨A', c', w', hrun, h2, h3, h5⟩

theorem wp_app {o : Oper} {a : Act} {K : Act → World → Prop} {Q : Exit → Act → World → Prop} (s x : Operand) (t : TypeId)
    (ho : o.op = .call { callee := .builtin .append, args := #[s, x], argTypes := #[t, t] })
    {e : TypeId} {z : Value} {bytes : Nat} (hE : Ety P t e z bytes) (base : Nat) (v : Value) (n : Nat) (xs : List Value) (hs : a.eval s = v) (hown : w.ownsRow base e 1 v n xs)
    (B : Nat) (A : Option Addr) (m c : Nat) (news : List Value) (hx : a.eval x = .slice A m c) (hr : Sl w B A m news) (h1 : ∀ u ∈ news, u.oneCell' = true)
    (hbytes : (n + m) * bytes ≤ 140737488355328) (hbase : base ≤ w.heap.size)
    (h : ∀ A' c' w', w'.ownsRow base e 1 (.slice A' (n + m) c') (n + m) (xs ++ news) → w.grownBy w' v.ownBlock →
      ((Value.slice A' (n + m) c').ownBlock = v.ownBlock ∨ (Value.slice A' (n + m) c').ownBlock = some w.heap.size) → K (a.put o.dst (.slice A' (n + m) c')) w') : o.wp P a w K Q := by
  obtain ⟨A', c', w', hrun, h2, h3, h4⟩ := run_app (P := P) w (ty := o.type) hE base v n xs hown B A m c news hr h1 hbytes hbase
  unfold Oper.wp execOp
  simp only [ho, resolve, invoke, builtin, Sem.run_bind, Sem.run_pure, Result.andThen_ok, List.map_toArray, List.map_cons, List.map_nil, hs, hx, hrun]
  exact h A' c' w' h2 h3 h4

theorem wpList_app {ops : Array Oper} {rest : List Oper} {o : Oper} {a : Act} {Q : Exit → Act → World → Prop} (hgd : o.guard = none) (s x : Operand) (t : TypeId)
    (ho : o.op = .call { callee := .builtin .append, args := #[s, x], argTypes := #[t, t] })
    {e : TypeId} {z : Value} {bytes : Nat} (hE : Ety P t e z bytes) (base : Nat) (v : Value) (n : Nat) (xs : List Value) (hs : a.eval s = v) (hown : w.ownsRow base e 1 v n xs)
    (B : Nat) (A : Option Addr) (m c : Nat) (news : List Value) (hx : a.eval x = .slice A m c) (hr : Sl w B A m news) (h1 : ∀ u ∈ news, u.oneCell' = true)
    (hbytes : (n + m) * bytes ≤ 140737488355328) (hbase : base ≤ w.heap.size)
    (h : ∀ A' c' w', w'.ownsRow base e 1 (.slice A' (n + m) c') (n + m) (xs ++ news) → w.grownBy w' v.ownBlock →
      ((Value.slice A' (n + m) c').ownBlock = v.ownBlock ∨ (Value.slice A' (n + m) c').ownBlock = some w.heap.size) → wpList P ops Q rest (a.put o.dst (.slice A' (n + m) c')) w') : wpList P ops Q (o :: rest) a w :=
  wpList_plain hgd fun _ hK => wp_app w s x t ho hE base v n xs hs hown B A m c news hx hr h1 hbytes hbase fun A' c' w' h2 h3 h4 => hK _ _ (h A' c' w' h2 h3 h4)

/-- The text of bytes. -/
def txt (l : List UInt8) : ByteArray := ⟨l.toArray⟩
theorem txt_toList (l : List UInt8) : (txt l).data.toList = l := rfl
theorem txt_inj {a b : List UInt8} (h : txt a = txt b) : a = b := by
  have := congrArg (fun s : ByteArray => s.data.toList) h; exact this
theorem txt_ne {a b : List UInt8} (h : a ≠ b) : ((txt a).toList == (txt b).toList) = false := by
  simp [txt, h]
theorem txt_eq (a : List UInt8) : ((txt a).toList == (txt a).toList) = true := by simp
theorem run_conv_txt {src dst e : TypeId} (hs : P.underlying src = some (.slice e)) (he : P.underlying e = some (.int .u8)) (hd : P.underlying dst = some .string)
    {B : Nat} {A : Option Addr} {n : Nat} (c : Nat) {l : List UInt8} (h : By w B A n l) : (convert src dst (.slice A n c)).run P w = .ok (.string (txt l)) w := by
  by_cases hn : n = 0
  · subst hn
    have : l = [] := List.eq_nil_of_length_eq_zero h.length
    subst this
    rcases A with _ | ad
    · exact run_convert_bytes_nil w src e hs he 0 c dst hd
    · rw [run_convert_bytes_string w src dst e _ 0 c hs he hd]
      exact run_bytesToString w ad 0 c [] (by simp [loadCells, loadCellsFrom])
  · obtain ⟨hl, ad, rfl, h0⟩ := By.get h (show 0 < n by omega)
    obtain ⟨b, off, spot⟩ := ad
    have hsp : spot = none := World.cell?_spot (by simpa [Addr.add] using h0)
    subst hsp
    have hlen := h.length
    have := run_convert_bytes_arg (P := P) w src e hs he b off n c (l.map fun x => (x.toNat : Int)) (by simp [hlen]) (fun i hi => by
      obtain ⟨hl', ad', e', hc⟩ := By.get h hi
      injection e' with e'
      subst e'
      have : (Addr.mk b off none).add i = ⟨b, off + i, none⟩ := by unfold Addr.add; split <;> simp_all
      rw [this] at hc
      rw [hc]
      simp [List.getD, hl']) dst hd
    rw [this]
    have : strOfNums (l.map fun x => (x.toNat : Int)) = txt l := by
      unfold strOfNums txt
      congr 1
      simp [List.map_map, Function.comp_def]
    rw [this]
end

/-- A slice of bytes that came in, as the shells of the proofs have it. -/
theorem by_of_row {w : World} {x : Addr} {len : Nat} {zs : List Int} (hl : len ≤ zs.length) (hc : ∀ i, i < zs.length → w.cell? (x.add i) = some (.int .u8 (zs.getD i 0)))
    (hwf : ∀ n ∈ zs, (Lit.int .u8 n).wf = true) : ∃ l, By w w.heap.size (some x) len l := by
  have hb : ∀ n ∈ zs, 0 ≤ n ∧ n < 256 := by
    intro n hn
    have := hwf n hn
    simp [Lit.wf, IntKind.min, IntKind.max, IntKind.signed, IntKind.bits] at this
    omega
  refine ⟨(zs.take len).map fun n => UInt8.ofNat n.toNat, by simp [u8s]; omega, fun j u hu => ?_⟩
  rw [u8s_get, List.getElem?_map, List.getElem?_take] at hu
  split at hu
  · rename_i hj
    have hj' : j < zs.length := by omega
    rw [List.getElem?_eq_getElem hj'] at hu
    simp only [Option.map_some, Option.some.injEq] at hu
    have h1 := hc j hj'
    have h2 := hb zs[j] (List.getElem_mem hj')
    refine ⟨x, rfl, ?_, ?_⟩
    · have : w.cell? (x.add j) ≠ none := by rw [h1]; simp
      rcases Nat.lt_or_ge x.block w.heap.size with h | h
      · exact h
      · exfalso
        apply this
        unfold World.cell?
        rw [addr_block, Array.getElem?_eq_none h]
    · rw [h1, ← hu, List.getD, List.getElem?_eq_getElem hj', Option.getD_some]
      congr 2
      rw [UInt8.toNat_ofNat']
      omega
  · cases hu
end Go.Proofs.YtbamdibpkkponaaDoor

/- The type of slices of bytes, of bools: what the program says of them. -/
namespace Go.Proofs.YtbamdibpkkponaaDoor
open Go.RowKit
theorem etyB : Ety Tryd.prog 30 5 (.int .u8 0) 1 := Ety.mk' Tryd.underlying30 (by kernel_rfl) rfl (by omega)
/-- append of a row of one-cell elements at a step of a region that draws its order. -/
theorem step_app {P : Program} {ops : Array Oper} {o : Oper} {a : Act} {w : World} {K : Act → World → Prop} {Q : Exit → Act → World → Prop} {E : Prop} (hgd : o.guard = none) (s x : Operand) (t : TypeId)
    (ho : o.op = .call { callee := .builtin .append, args := #[s, x], argTypes := #[t, t] })
    {e : TypeId} {z : Value} {bytes : Nat} (hE : Ety P t e z bytes) (base : Nat) (v : Value) (n : Nat) (xs : List Value) (hs : a.eval s = v) (hown : w.ownsRow base e 1 v n xs)
    (B : Nat) (A : Option Addr) (m c : Nat) (news : List Value) (hx : a.eval x = .slice A m c) (hr : Sl w B A m news) (h1 : ∀ u ∈ news, u.oneCell' = true)
    (hbytes : (n + m) * bytes ≤ 140737488355328) (hbase : base ≤ w.heap.size)
    (h : ∀ A' c' w', w'.ownsRow base e 1 (.slice A' (n + m) c') (n + m) (xs ++ news) → w.grownBy w' v.ownBlock →
      ((Value.slice A' (n + m) c').ownBlock = v.ownBlock ∨ (Value.slice A' (n + m) c').ownBlock = some w.heap.size) → K (a.put o.dst (.slice A' (n + m) c')) w') :
    if Region.wanted o (yielded ops a.tmps) = true then Oper.wp P o a w K Q else E := by
  have hw : Region.wanted o (yielded ops a.tmps) = true := by simp [Region.wanted, hgd]
  rw [if_pos hw]
  exact wp_app w s x t ho hE base v n xs hs hown B A m c news hx hr h1 hbytes hbase h
end Go.Proofs.YtbamdibpkkponaaDoor

/- Blocks that are known whole, and what a call keeps of all but some. -/
namespace Go.Proofs.YtbamdibpkkponaaDoor
open Go.RowKit

/-- Block g is just these cells, none of them frozen. -/
def Blk (w : World) (g : Nat) (t : TypeId) (cs : Array Value) : Prop := w.heap[g]? = some (.cells cs t (0, 0))
/-- All blocks but these are as they were. -/
structure Kp (gs : List Nat) (w w' : World) : Prop where
  os : w'.os = w.os
  tape : w'.tape = w.tape
  output : w'.output = w.output
  size : w.heap.size ≤ w'.heap.size
  block : ∀ k, k < w.heap.size → k ∉ gs → w'.heap[k]? = w.heap[k]?

section
variable {w w' w2 : World} {g : Nat} {t : TypeId} {cs : Array Value} {gs : List Nat}
theorem Blk.lt (h : Blk w g t cs) : g < w.heap.size := by
  rcases Nat.lt_or_ge g w.heap.size with hl | hg
  · exact hl
  · unfold Blk at h; rw [Array.getElem?_eq_none hg] at h; cases h
theorem Blk.cell (h : Blk w g t cs) (i : Nat) : w.cell? ⟨g, i, none⟩ = cs[i]? := cell_of_row w g i cs t (0, 0) h
theorem Blk.frozen (h : Blk w g t cs) (i : Nat) : w.frozen? ⟨g, i, none⟩ = false := by
  unfold Blk at h; simp [World.frozen?, h]
theorem Blk.new (w : World) (t : TypeId) (cs : Array Value) : Blk (w.alloc (.cells cs t)) w.heap.size t cs := heap_alloc_new w _
theorem Blk.drew (h : Blk w g t cs) : Blk w.drew g t cs := h
theorem Blk.drewN (h : Blk w g t cs) (n : Nat) : Blk (w.drewN n) g t cs := h
theorem Blk.alloc (h : Blk w g t cs) (o : Obj) : Blk (w.alloc o) g t cs := (Below.heap_alloc w o g h.lt).trans h
theorem Blk.set (h : Blk w g t cs) (i : Nat) (u : Value) : Blk (w.setCell ⟨g, i, none⟩ u) g t (cs.setIfInBounds i u) := by
  unfold Blk at h ⊢; simp [World.setCell, Array.getElem?_modify, h]
theorem Blk.far (h : Blk w g t cs) {p : Addr} (hp : g ≠ p.block) (u : Value) : Blk (w.setCell p u) g t cs := (Below.heap_setCell w p u g hp).trans h
theorem Blk.kp (h : Blk w g t cs) (hk : Kp gs w w') (hn : g ∉ gs) : Blk w' g t cs := (hk.block g h.lt hn).trans h
theorem Blk.below (h : Blk w g t cs) (hb : Below w.heap.size w w') : Blk w' g t cs := (hb.block g h.lt).trans h
theorem Kp.refl (gs : List Nat) (w : World) : Kp gs w w := ⟨rfl, rfl, rfl, Nat.le_refl _, fun _ _ _ => rfl⟩
theorem Kp.trans (h : Kp gs w w') (k : Kp gs w' w2) : Kp gs w w2 :=
  ⟨k.os.trans h.os, k.tape.trans h.tape, k.output.trans h.output, Nat.le_trans h.size k.size, fun i hi hn => (k.block i (Nat.lt_of_lt_of_le hi h.size) hn).trans (h.block i hi hn)⟩
theorem Kp.drew (h : Kp gs w w') : Kp gs w w'.drew := ⟨h.os, h.tape, h.output, h.size, h.block⟩
theorem Kp.drewN (h : Kp gs w w') (n : Nat) : Kp gs w (w'.drewN n) := ⟨h.os, h.tape, h.output, h.size, h.block⟩
theorem Kp.alloc (h : Kp gs w w') (o : Obj) : Kp gs w (w'.alloc o) :=
  ⟨h.os, h.tape, h.output, Nat.le_trans h.size (by simp), fun i hi hn => (Below.heap_alloc w' o i (Nat.lt_of_lt_of_le hi h.size)).trans (h.block i hi hn)⟩
theorem Kp.set (h : Kp gs w w') {p : Addr} (hp : p.block ∈ gs ∨ w.heap.size ≤ p.block) (u : Value) : Kp gs w (w'.setCell p u) :=
  ⟨h.os, h.tape, h.output, by simpa [World.setCell] using h.size, fun i hi hn => (Below.heap_setCell w' p u i (by
    rintro rfl
    rcases hp with hp | hp
    · exact hn hp
    · omega)).trans (h.block i hi hn)⟩
theorem Kp.of_below (h : Below w.heap.size w w') : Kp gs w w' := ⟨h.os, h.tape, h.output, h.size, fun i hi _ => h.block i hi⟩
theorem Kp.more {gs' : List Nat} (h : Kp gs w w') (hs : ∀ g ∈ gs, g ∈ gs') : Kp gs' w w' := ⟨h.os, h.tape, h.output, h.size, fun i hi hn => h.block i hi (fun hg => hn (hs i hg))⟩
theorem Kp.below {B : Nat} (h : Kp gs w w') (hB : B ≤ w.heap.size) (hg : ∀ g ∈ gs, B ≤ g) : Below B w w' :=
  ⟨h.os, h.tape, h.output, h.size, fun k hk => h.block k (Nat.lt_of_lt_of_le hk hB) (fun hm => by have := hg k hm; omega)⟩
theorem Below.kp2 {B : Nat} (h : Below B w w') (k : Kp gs w' w2) (hB : B ≤ w'.heap.size) (hg : ∀ g ∈ gs, B ≤ g) : Below B w w2 := h.trans (k.below hB hg)
end

/-- So many bools as cells. -/
def bools (l : List Bool) : Array Value := (l.map Value.bool).toArray
theorem bools_get (l : List Bool) (i : Nat) : (bools l)[i]? = l[i]?.map Value.bool := by simp [bools]
theorem bools_set (l : List Bool) (i : Nat) (b : Bool) : (bools l).setIfInBounds i (.bool b) = bools (l.set i b) := by simp [bools, List.map_set]
theorem bools_rep (n : Nat) : (List.replicate n (Value.bool false)).toArray = bools (List.replicate n false) := by simp [bools]
end Go.Proofs.YtbamdibpkkponaaDoor

/- Rows of the call's own: made whole, written in a place, cut, grown by zeros. -/
namespace Go.Proofs.YtbamdibpkkponaaDoor
open Go.RowKit

/-- A row that was built whole. -/
theorem own_built {w : World} {base n : Nat} {e : TypeId} (cur : Array Value) (hb : base ≤ w.heap.size) (hn : cur.size = n) (hm : n ≤ 9223372036854775807) :
    (w.alloc (.cells cur e)).ownsRow base e 1 (.slice (some ⟨w.heap.size, 0, none⟩) n n) n cur.toList := by
  refine ⟨by simp [hn], .inr ⟨w.heap.size, n, cur, rfl, hb, heap_alloc_new w _, Nat.le_refl _, by simp only [maxLen]; omega, by omega, ?_⟩⟩
  rw [List.take_of_length_le (by simp; omega)]
theorem own_drewN {w : World} {base n : Nat} {e : TypeId} {v : Value} {xs : List Value} (h : w.ownsRow base e 1 v n xs) (k : Nat) : (w.drewN k).ownsRow base e 1 v n xs := h
theorem own_base {w : World} {base base' n : Nat} {e : TypeId} {v : Value} {xs : List Value} (h : w.ownsRow base e 1 v n xs) (hb : base' ≤ base) : w.ownsRow base' e 1 v n xs := by
  refine ⟨h.1, ?_⟩
  rcases h.2 with h0 | ⟨g, cap, cur, h1, h2, h3⟩
  · exact .inl h0
  · exact .inr ⟨g, cap, cur, h1, by omega, h3⟩
theorem own_below {w w' : World} {B base n : Nat} {e : TypeId} {v : Value} {xs : List Value} (h : w.ownsRow base e 1 v n xs) (hb : Below B w w') (hv : ∀ g, v.ownBlock = some g → g < B) : w'.ownsRow base e 1 v n xs := by
  refine ⟨h.1, ?_⟩
  rcases h.2 with h0 | ⟨g, cap, cur, rfl, h2, h3, h4⟩
  · exact .inl h0
  · exact .inr ⟨g, cap, cur, rfl, h2, (hb.block g (hv g rfl)).trans h3, h4⟩
theorem own_lt {w : World} {base n : Nat} {e : TypeId} {v : Value} {xs : List Value} (h : w.ownsRow base e 1 v n xs) : ∀ g, v.ownBlock = some g → g < w.heap.size :=
  fun g hg => (h.lt g hg).2
/-- What an own row keeps while all below a later block number stays. -/
theorem own_keep {w w' : World} {base n : Nat} {e : TypeId} {v : Value} {xs : List Value} (h : w.ownsRow base e 1 v n xs) (hb : Below w.heap.size w w') : w'.ownsRow base e 1 v n xs :=
  own_below h hb (own_lt h)
/-- Its first k, with the room as it was. -/
theorem own_head {w : World} {base n c k : Nat} {e : TypeId} {A : Option Addr} {xs : List Value} (h : w.ownsRow base e 1 (.slice A n c) n xs) (hk : k ≤ n) :
    w.ownsRow base e 1 (.slice A k c) k (xs.take k) := by
  have h1 := h.1
  rcases h.2 with ⟨h0, rfl⟩ | ⟨g, cap, cur, h2, h3, h4, h5, h6, h7, h8⟩
  · have : k = 0 := by omega
    subst this
    exact ⟨by simp, .inl ⟨h0, rfl⟩⟩
  · injection h2 with e1 e2 e3
    subst e1 e3
    refine ⟨by rw [List.length_take]; omega, .inr ⟨g, c, cur, rfl, h3, h4, by omega, h6, h7, ?_⟩⟩
    rw [← h8, List.take_take, Nat.mul_one, Nat.mul_one, Nat.min_eq_left (by omega)]
/-- A place of an own row: its cell may be written, and the row then reads so. -/
theorem own_at {w : World} {base n c k : Nat} {e : TypeId} {A : Option Addr} {xs : List Value} (h : w.ownsRow base e 1 (.slice A n c) n xs) (hk : k < n) :
    ∃ ad u, A = some ad ∧ base ≤ ad.block ∧ ad.block < w.heap.size ∧ xs[k]? = some u ∧ w.cell? (ad.add k) = some u ∧ w.frozen? (ad.add k) = false ∧
      ∀ v, (w.setCell (ad.add k) v).ownsRow base e 1 (.slice A n c) n (xs.set k v) := by
  have h1 := h.1
  rcases h.2 with ⟨h0, rfl⟩ | ⟨g, cap, cur, h2, h3, h4, h5, h6, h7, h8⟩
  · omega
  · injection h2 with e1 e2 e3
    subst e1 e3
    have hadd : (Addr.mk g 0 none).add k = ⟨g, k, none⟩ := by unfold Addr.add; split <;> simp_all
    have hx : xs[k]? = some (xs[k]'(by omega)) := List.getElem?_eq_getElem (by omega)
    refine ⟨_, _, rfl, h3, own_lt h g rfl, hx, h.cells (g := g) rfl k _ hx, ?_, fun v => ⟨by rw [List.length_set]; omega, .inr ⟨g, c, cur.setIfInBounds k v, rfl, h3, ?_, h5, h6, by simp [h7], ?_⟩⟩⟩
    · rw [hadd]
      simp [World.frozen?, h4]
    · rw [hadd]
      simp [World.setCell, Array.getElem?_modify, h4]
    · rw [Array.toList_setIfInBounds, List.take_set, h8]
theorem bel_set {B : Nat} {a w : World} (h : Below B a w) {p : Addr} (hp : B ≤ p.block) (k : Nat) (u : Value) : Below B a (w.setCell (p.add k) u) :=
  h.setCell (by rw [addr_block]; exact hp) u

section
variable {P : Program} (w : World)
theorem zeroCells_one {z : Value} (h : z.cells.size = 1) (hz : z.cells = #[z]) (m : Nat) : Builtin.zeroCells z.cells m = (List.replicate m z).toArray := by
  apply Array.ext
  · simp [size_zeroCells, h]
  · intro i h1 h2
    simp [Builtin.zeroCells, hz]
    simp only [Nat.mod_one]
    rfl
/-- append of so many zeros onto a row of the call's own. -/
theorem run_app_zeros {t tn ty e : TypeId} {z : Value} {bytes : Nat} {kn kq : IntKind} (hE : Ety P t e z bytes) (hzc : z.cells = #[z]) (hz1 : z.oneCell' = true) (htn : P.underlying tn = some (.int kn))
    (base : Nat) (v : Value) (n : Nat) (xs : List Value) (hown : w.ownsRow base e 1 v n xs) (m : Nat)
    (hbytes : (n + m) * bytes ≤ 140737488355328) (hbase : base ≤ w.heap.size) :
    ∃ A' c' w', (Builtin.append_ #[t, tn] ty #[v, .int kq (m : Int)]).run P w = .ok (.slice A' (n + m) c') w' ∧ w'.ownsRow base e 1 (.slice A' (n + m) c') (n + m) (xs ++ List.replicate m z) ∧
      w.grownBy w' v.ownBlock ∧ ((Value.slice A' (n + m) c').ownBlock = v.ownBlock ∨ (Value.slice A' (n + m) c').ownBlock = some w.heap.size) := by
  obtain ⟨i, hi, hz, hs, hb⟩ := hE.info
  have hp := hE.pos
  have hle : n + m ≤ 140737488355328 := Nat.le_trans (Nat.le_mul_of_pos_right _ hE.pos) hbytes
  have h63 : n + m ≤ maxLen := by simp only [maxLen]; omega
  have hmb : m * bytes ≤ 140737488355328 := Nat.le_trans (Nat.mul_le_mul_right _ (by omega)) hbytes
  have hw : IntKind.i64.wrap (m : Int) = m := by rw [IntKind.wrap_i64]; omega
  have hneg : ¬ ((m : Int) < 0) := by omega
  have h48i : ¬ (281474976710656 < (m : Int) * (i.bytes : Int)) := by
    rw [hb, ← Int.natCast_mul]; omega
  have h1 := hown.1
  rcases hown.2 with ⟨rfl, rfl⟩ | ⟨g, cap, cur, rfl, hbg, hg, hnc, hcm, hcs, htake⟩
  · have hx : xs = [] := List.eq_nil_of_length_eq_zero (by omega)
    subst hx
    by_cases hm : m = 0
    · subst hm
      refine ⟨none, 0, w, ?_, World.ownsRow_nil w base e 1, ⟨rfl, rfl, rfl, Nat.le_refl _, fun _ _ _ => rfl⟩, .inl rfl⟩
      have hw0 : IntKind.i64.wrap 0 = 0 := rfl
      simp [Builtin.append_, run_underlying hE.under, run_underlying htn, sizeOf, typeInfo, hi, asInt, asIntOf, hw0]
    · have hr := Lib.run_append_nil_zeros (P := P) w t tn ty e i z kq kn hE.under htn hi hz m (by omega) (by omega) (by omega) (by rw [hb]; omega)
      have hge := grownCap_ge w m 0 e
      have hcm := grownCap_le_maxLen w m 0 e (by omega)
      simp only [Nat.zero_add, List.nil_append]
      refine ⟨_, _, _, hr, ⟨by simp, .inr ⟨w.heap.size, _, _, rfl, hbase, heap_alloc_new w.drew _, hge, hcm, ?_, ?_⟩⟩, ⟨rfl, rfl, rfl, by simp, fun k hk _ => heap_alloc_old w.drew _ hk⟩, .inr rfl⟩
      · simp [size_zeroCells, hE.one]; omega
      · rw [zeroCells_one hE.one hzc, zeroCells_one hE.one hzc]
        simp [hge]
  · by_cases hroom : n + m ≤ cap
    · have hst := run_storeCells_at P g n e (List.replicate m z) 0 cur w hg (by simp; omega) (by intro u hu; rw [(List.mem_replicate.1 hu).2]; exact hz1)
      simp only [Nat.add_zero] at hst
      have hz0 : Builtin.zeroCells z.cells m = (List.replicate m z).toArray := zeroCells_one hE.one hzc m
      refine ⟨some ⟨g, 0, none⟩, cap, w.setRow g (cur.toList.take n ++ List.replicate m z ++ cur.toList.drop (n + m)).toArray, ?_, ⟨by simp [h1], .inr ⟨g, cap, _, rfl, hbg, setRow_heap w g cur _ e _ hg, hroom, hcm, ?_, ?_⟩⟩, ⟨rfl, rfl, rfl, by simp, fun k hk hne => setRow_other w g k _ (fun e => hne (by simp [Value.ownBlock, e]))⟩, .inl rfl⟩
      · by_cases hm : m = 0
        · subst hm
          have hsame : w.setRow g (cur.toList.take n ++ List.replicate 0 z ++ cur.toList.drop (n + 0)).toArray = w := by
            simp at hst
            simpa [storeCells] using hst.symm
          rw [hsame]
          have hw0 : IntKind.i64.wrap 0 = 0 := rfl
          simp [Builtin.append_, run_underlying hE.under, run_underlying htn, sizeOf, typeInfo, hi, asInt, asIntOf, hw0, hnc, storeCells]
        · simp at hst
          have hb' : ¬ (281474976710656 < (m : Int) * (bytes : Int)) := by rw [← hb]; exact h48i
          simp [Builtin.append_, run_underlying hE.under, run_underlying htn, sizeOf, typeInfo, zeroValue, hi, hz, hs, hb, hb', asInt, asIntOf, hw, hneg, hroom, hm, Addr.add_lit, hz0, hst]
      · simp; omega
      · have hxl : xs.length = n := by omega
        have ht : cur.toList.take n = xs := by simpa using htake
        rw [ht, List.append_assoc, ← List.append_assoc]
        rw [List.take_left' (by simp [hxl])]
    · have hold : (Builtin.firstCells i.size n (.slice (some ⟨g, 0, none⟩) n cap)).run P w.drew = .ok xs.toArray w.drew := by
        have := run_firstCells_some (P := P) w.drew i.size n ⟨g, 0, none⟩ n cap xs (by rw [hs]; exact h1) (hown.cells (g := g) rfl)
        simpa using this
      have hfit : Builtin.nextslicecap (n + m) cap * i.bytes ≤ 281474976710656 := by
        have : Builtin.nextslicecap (n + m) cap ≤ 2 * (n + m) := by
          have := nextslicecap_le (need := n + m) (old := cap) (by omega)
          omega
        rw [hb]
        calc Builtin.nextslicecap (n + m) cap * bytes ≤ 2 * (n + m) * bytes := Nat.mul_le_mul_right _ this
          _ = 2 * ((n + m) * bytes) := Nat.mul_assoc _ _ _
          _ ≤ 281474976710656 := by omega
      have hr := Lib.run_append_grow_zeros (P := P) w t tn ty e i z kq kn hE.under htn hi hz (some ⟨g, 0, none⟩) n cap xs hold m (by omega) (by omega) (by omega) (by omega) (by rw [hb]; omega) hfit
      have hge := grownCap_ge w (n + m) cap e
      have hcm' := grownCap_le_maxLen w (n + m) cap e h63
      refine ⟨_, _, _, hr, ⟨by simp [h1], .inr ⟨w.heap.size, _, _, rfl, hbase, heap_alloc_new w.drew _, hge, hcm', ?_, ?_⟩⟩, ⟨rfl, rfl, rfl, by simp, fun k hk _ => heap_alloc_old w.drew _ hk⟩, .inr rfl⟩
      · simp [size_zeroCells, hE.one]; omega
      · rw [zeroCells_one hE.one hzc, zeroCells_one hE.one hzc]
        simp
        rw [← List.replicate_append_replicate, ← List.append_assoc, List.take_left' (by simp; omega)]
end

/-- So many of one value. -/
def zs (z : Value) (n : Nat) : Array Value := (List.replicate n z).toArray
theorem zs_size (z : Value) (n : Nat) : (zs z n).size = n := by simp [zs]
theorem madeCells_zs {z : Value} (_h : z.cells.size = 1) (hz : z.cells = #[z]) (n : Nat) : madeCells z.cells n = zs z n := by
  apply Array.ext
  · simp [madeCells, zs]
  · intro i h1 h2
    simp [madeCells, hz, zs]
    simp only [Nat.mod_one]
    rfl
/-- make, a length and a room. -/
theorem run_mk {P : Program} {t e : TypeId} {z : Value} {bytes : Nat} (hE : Ety P t e z bytes) (hzc : z.cells = #[z]) (kl kc : IntKind) (n c : Nat) (hnc : n ≤ c) (hb : c * bytes ≤ 140737488355328) (w : World) :
    (Instr.makeSlice t (.int kl (n : Int)) (.int kc (c : Int))).run P w = .ok (.slice (some ⟨w.heap.size, 0, none⟩) n c) (w.alloc (.cells (zs z c) e)) := by
  obtain ⟨i, hi, hz, hs, hby⟩ := hE.info
  have hle : c ≤ 140737488355328 := Nat.le_trans (Nat.le_mul_of_pos_right _ hE.pos) hb
  have hbI : (i.bytes : Int) * (c : Int) ≤ 281474976710656 := by
    rw [hby, ← Int.natCast_mul, Nat.mul_comm]; omega
  have hr := run_make (P := P) w t e i z hE.under hi hz kl kc n c (by omega) (by omega) hbI (by omega)
  simp only [Int.toNat_natCast, hs, Nat.mul_one] at hr
  rw [hr, madeCells_zs hE.one hzc]
theorem own_mk {w : World} {base n c : Nat} {e : TypeId} {z : Value} (hb : base ≤ w.heap.size) (hnc : n ≤ c) (hm : c ≤ 9223372036854775807) :
    (w.alloc (.cells (zs z c) e)).ownsRow base e 1 (.slice (some ⟨w.heap.size, 0, none⟩) n c) n (List.replicate n z) := by
  refine ⟨by simp, .inr ⟨w.heap.size, c, _, rfl, hb, heap_alloc_new w _, hnc, by simp only [maxLen]; omega, by rw [zs_size]; omega, ?_⟩⟩
  simp [zs, hnc]

section
variable {P : Program} (w : World)
/-- append onto a slice that has no room for it: new memory. -/
theorem run_app_new {t ty e : TypeId} {z : Value} {bytes : Nat} (hE : Ety P t e z bytes) {B0 : Nat} (b : Addr) (n c : Nat) (xs : List Value) (hx : Sl w B0 (some b) n xs)
    {B : Nat} (A : Option Addr) (m c' : Nat) (news : List Value) (hr : Sl w B A m news) (hnc : n ≤ c) (hg : c < n + m) (hbytes : (n + m) * bytes ≤ 140737488355328) :
    ∃ A' c'' w', (Builtin.append_ #[t, t] ty #[.slice (some b) n c, .slice A m c']).run P w = .ok (.slice A' (n + m) c'') w' ∧ w'.ownsRow w.heap.size e 1 (.slice A' (n + m) c'') (n + m) (xs ++ news) ∧ Below w.heap.size w w' := by
  obtain ⟨i, hi, hz, hs, hb⟩ := hE.info
  have hle : n + m ≤ 140737488355328 := Nat.le_trans (Nat.le_mul_of_pos_right _ hE.pos) hbytes
  have h63 : n + m ≤ maxLen := by simp only [maxLen]; omega
  obtain ⟨ad, _, rfl, _⟩ := hr.get (show 0 < m by omega)
  have hnews : ∀ j u, news[j]? = some u → w.cell? (ad.add j) = some u := by
    intro j u hu
    obtain ⟨ad', h, _, hc⟩ := hr.cells j u hu
    injection h with h
    subst h
    exact hc
  have holds : ∀ j u, xs[j]? = some u → w.cell? (b.add j) = some u := by
    intro j u hu
    obtain ⟨ad', h, _, hc⟩ := hx.cells j u hu
    injection h with h
    subst h
    exact hc
  have h := run_append_grow (P := P) w t ty e i z hE.under hi hz b n c xs (by rw [hs, hx.len]; omega) holds ad m c' news (by rw [hs, hr.len]; omega) hnews hg (by omega) (by rw [hb]; exact growslice_fits (by omega) hbytes)
  have hge := grownCap_ge w (n + m) c e
  have hcm := grownCap_le_maxLen w (n + m) c e h63
  refine ⟨_, _, _, h, ⟨by rw [List.length_append, hx.len, hr.len]; omega, .inr ⟨w.heap.size, _, _, rfl, Nat.le_refl _, heap_alloc_new w.drew _, hge, hcm, ?_, ?_⟩⟩, ⟨rfl, rfl, rfl, by simp, fun k hk => heap_alloc_old w.drew _ hk⟩⟩
  · simp [size_zeroCells, hE.one, hx.len, hr.len]; omega
  · simp only [Array.toList_append, List.append_assoc, Nat.mul_one]
    rw [← List.append_assoc, List.take_left' (by rw [List.length_append, hx.len, hr.len])]
theorem wpList_app_new {ops : Array Oper} {rest : List Oper} {o : Oper} {a : Act} {Q : Exit → Act → World → Prop} (hgd : o.guard = none) (s x : Operand) (t : TypeId)
    (ho : o.op = .call { callee := .builtin .append, args := #[s, x], argTypes := #[t, t] })
    {e : TypeId} {z : Value} {bytes : Nat} (hE : Ety P t e z bytes) (B0 : Nat) (b : Addr) (n c : Nat) (xs : List Value) (hs : a.eval s = .slice (some b) n c) (hx : Sl w B0 (some b) n xs)
    (B : Nat) (A : Option Addr) (m c' : Nat) (news : List Value) (hxe : a.eval x = .slice A m c') (hr : Sl w B A m news) (hnc : n ≤ c) (hg : c < n + m) (hbytes : (n + m) * bytes ≤ 140737488355328)
    (h : ∀ A' c'' w', w'.ownsRow w.heap.size e 1 (.slice A' (n + m) c'') (n + m) (xs ++ news) → Below w.heap.size w w' → wpList P ops Q rest (a.put o.dst (.slice A' (n + m) c'')) w') : wpList P ops Q (o :: rest) a w := by
  refine wpList_plain hgd fun K hK => ?_
  obtain ⟨A', c'', w', hrun, h2, h3⟩ := run_app_new (P := P) w (ty := o.type) hE b n c xs hx A m c' news hr hnc hg hbytes
  unfold Oper.wp execOp
  simp only [ho, resolve, invoke, builtin, Sem.run_bind, Sem.run_pure, Result.andThen_ok, List.map_toArray, List.map_cons, List.map_nil, hs, hxe, hrun]
  exact hK _ _ (h A' c'' w' h2 h3)
end
end Go.Proofs.YtbamdibpkkponaaDoor

/- Rows of the call's own; what append leaves of other blocks. -/
namespace Go.Proofs.YtbamdibpkkponaaDoor
open Go.RowKit

theorem bel_gr {B : Nat} {a w w' : World} (h : Below B a w) {r : Option Nat} (hg : w.grownBy w' r) (hr : ∀ g, r = some g → B ≤ g) (hB : B ≤ w.heap.size) : Below B a w' :=
  ⟨hg.os.trans h.os, hg.tape.trans h.tape, hg.output.trans h.output, Nat.le_trans h.size hg.size, fun i hi => (hg.block i (Nat.lt_of_lt_of_le hi hB) (fun e => by have := hr i e.symm; omega)).trans (h.block i hi)⟩
theorem blk_gr {w w' : World} {r : Option Nat} {g : Nat} {t : TypeId} {cs : Array Value} (h : Blk w g t cs) (hg : w.grownBy w' r) (hn : some g ≠ r) : Blk w' g t cs := (hg.block g h.lt hn).trans h
theorem own_kq {w w' : World} {base n k : Nat} {e : TypeId} {v : Value} {xs : List Value} (h : w.ownsRow base e k v n xs) {gs : List Nat} (hk : Kp gs w w') (hv : ∀ g, v.ownBlock = some g → g ∉ gs) : w'.ownsRow base e k v n xs := by
  refine ⟨h.1, ?_⟩
  rcases h.2 with h0 | ⟨g, cap, cur, rfl, h2, h3, h4⟩
  · exact .inl h0
  · exact .inr ⟨g, cap, cur, rfl, h2, Blk.kp h3 hk (hv g rfl), h4⟩
theorem own_bel {w w' : World} {base n k : Nat} {e : TypeId} {v : Value} {xs : List Value} (h : w.ownsRow base e k v n xs) (hb : Below w.heap.size w w') : w'.ownsRow base e k v n xs :=
  own_kq h (Kp.of_below (gs := []) hb) (by simp)
theorem own_bq {w : World} {base base' n k : Nat} {e : TypeId} {v : Value} {xs : List Value} (h : w.ownsRow base e k v n xs) (hb : base' ≤ base) : w.ownsRow base' e k v n xs := by
  refine ⟨h.1, ?_⟩
  rcases h.2 with h0 | ⟨g, cap, cur, h1, h2, h3⟩
  · exact .inl h0
  · exact .inr ⟨g, cap, cur, h1, Nat.le_trans hb h2, h3⟩
theorem own_gr {w w' : World} {base n k : Nat} {e : TypeId} {v : Value} {xs : List Value} {r : Option Nat} (h : w.ownsRow base e k v n xs) (hg : w.grownBy w' r) (hv : ∀ g, v.ownBlock = some g → some g ≠ r) : w'.ownsRow base e k v n xs := by
  refine ⟨h.1, ?_⟩
  rcases h.2 with h0 | ⟨g, cap, cur, rfl, h2, h3, h4⟩
  · exact .inl h0
  · exact .inr ⟨g, cap, cur, rfl, h2, blk_gr h3 hg (hv g rfl), h4⟩
theorem own_nw {w : World} {base k : Nat} {e : TypeId} (hb : base ≤ w.heap.size) : (w.alloc (.cells #[] e)).ownsRow base e k (.slice (some ⟨w.heap.size, 0, none⟩) 0 0) 0 [] :=
  ⟨by simp, .inr ⟨w.heap.size, 0, #[], rfl, hb, heap_alloc_new w _, Nat.le_refl _, by simp [maxLen], by simp, by simp⟩⟩
theorem own_set1 {w : World} {base n c k : Nat} {e : TypeId} {A : Option Addr} {xs : List Value} (h : w.ownsRow base e 1 (.slice A n c) n xs) (hk : k < n) :
    ∃ g u, A = some ⟨g, 0, none⟩ ∧ base ≤ g ∧ g < w.heap.size ∧ xs[k]? = some u ∧ w.cell? ⟨g, k, none⟩ = some u ∧ w.frozen? ⟨g, k, none⟩ = false ∧ ∀ v, (w.setCell ⟨g, k, none⟩ v).ownsRow base e 1 (.slice A n c) n (xs.set k v) := by
  obtain ⟨ad, u, hA, h1, h2, h3, h4, h5, h6⟩ := own_at h hk
  rcases h.2 with ⟨hv, _⟩ | ⟨g, cap, cur, hv, _⟩
  · rw [hA] at hv; injection hv with hv; cases hv
  · injection hv with hv
    rw [hA] at hv
    injection hv with hv
    subst hv
    rw [Addr.add_mid, Nat.zero_add] at h4 h5
    refine ⟨g, u, hA, h1, h2, h3, h4, h5, fun v => ?_⟩
    have := h6 v
    rwa [Addr.add_mid, Nat.zero_add] at this
theorem ob' (A : Option Addr) (n c : Nat) : (Value.slice A n c).ownBlock = (Value.slice A 0 0).ownBlock := by cases A <;> rfl
end Go.Proofs.YtbamdibpkkponaaDoor

/- Rows of integers of the call's own; what append leaves of other blocks. -/
namespace Go.Proofs.YtbamdibpkkponaaDoor
open Go.RowKit

/-- Integers as cells. -/
def intC (l : List Int) : List Value := l.map (Value.int .i64)
theorem intC_app (l : List Int) (x : Int) : intC l ++ [.int .i64 x] = intC (l ++ [x]) := by simp [intC]
theorem intC_apps (l m : List Int) : intC l ++ intC m = intC (l ++ m) := by simp [intC]
theorem intC_one (l : List Int) : ∀ u ∈ intC l, u.oneCell' = true := fun u hu => by
  obtain ⟨x, _, rfl⟩ := List.mem_map.1 hu
  rfl
theorem intC_len (l : List Int) : (intC l).length = l.length := by simp [intC]
theorem etyJ : Ety Tryd.prog 23 3 (.int .i64 0) 8 := Ety.mk' Tryd.underlying23 (by kernel_rfl) (by rfl) (by decide)
theorem int_slice (w : World) (x : Int) : (Instr.buildSlice 23 1 #[(0, .int .i64 x)]).run Tryd.prog w = .ok (.slice (some ⟨w.heap.size, 0, none⟩) 1 1) (w.alloc (.cells #[.int .i64 x] 3)) := by
  have hz : (Tryd.prog.info? 3).map (fun i => (i.zero, i.size, i.bytes)) = some (some (.int .i64 0), 1, 8) := by kernel_rfl
  obtain ⟨ie, hi, h1, h2, h3⟩ := info_parts hz
  have hfill := Great.fill_whole (s := 1) (by omega) [Value.int .i64 x] ((Array.range (1 * ie.size)).map ((Value.int .i64 0).cells[· % (Value.int .i64 0).cells.size]!)) (fun v hv => by
    rw [List.mem_singleton] at hv
    subst hv
    simp [Value.cells]) (by simp [h2])
  refine run_buildSlice w 23 3 1 _ #[.int .i64 x] ie _ Tryd.underlying23 hi h1 (by rw [h2]; omega) (by rw [h2]; omega) ?_
  rw [h2] at hfill ⊢
  simpa [Value.cells] using hfill
/-- A row of integers of the call's own. -/
abbrev OwnI (w : World) (base : Nat) (A : Option Addr) (c : Nat) (l : List Int) : Prop := w.ownsRow base 3 1 (.slice A l.length c) l.length (intC l)
theorem OwnI.nil {w : World} {base : Nat} : OwnI w base none 0 [] := World.ownsRow_nil _ _ _ _
theorem OwnI.lt {w : World} {base c : Nat} {A : Option Addr} {l : List Int} (h : OwnI w base A c l) : ∀ g, (Value.slice A 0 0).ownBlock = some g → base ≤ g ∧ g < w.heap.size := fun g hg => World.ownsRow.lt h g (by rw [← hg]; exact ob' _ _ _)
theorem OwnI.at {w : World} {base c : Nat} {A : Option Addr} {l : List Int} (h : OwnI w base A c l) {k : Nat} (hk : k < l.length) : ∃ g x, A = some ⟨g, 0, none⟩ ∧ base ≤ g ∧ g < w.heap.size ∧ l[k]? = some x ∧ w.cell? ⟨g, k, none⟩ = some (.int .i64 x) := by
  obtain ⟨g, u, hA, h1, h2, h3, h4, -, -⟩ := own_set1 h hk
  have hx : l[k]? = some l[k] := List.getElem?_eq_getElem hk
  refine ⟨g, l[k], hA, h1, h2, hx, ?_⟩
  rw [intC, List.getElem?_map, hx] at h3
  simp only [Option.map_some, Option.some.injEq] at h3
  rw [h4, h3]
/-- One integer of a row. -/
theorem one_int (w : World) (x : Int) : Sl (w.alloc (.cells #[.int .i64 x] 3)) (w.heap.size + 1) (some ⟨w.heap.size, 0, none⟩) 1 [.int .i64 x] := by
  refine ⟨rfl, fun i u hu => ⟨_, rfl, by simp, ?_⟩⟩
  rw [Addr.add_mid, Nat.zero_add, (Blk.new w _ _).cell]
  simpa using hu
end Go.Proofs.YtbamdibpkkponaaDoor

/- append onto a row of the call's own whose elements have k cells; the source nil, empty or not. -/
namespace Go.Proofs.YtbamdibpkkponaaDoor
open Go.RowKit

structure EtyK (P : Program) (t e : TypeId) (z : Value) (k bytes : Nat) : Prop where
  under : P.underlying t = some (.slice e)
  info : ∃ i, P.info? e = some i ∧ i.zero = some z ∧ i.size = k ∧ i.bytes = bytes
  cells : z.cells.size = k
  kpos : 0 < k
  pos : 0 < bytes
theorem EtyK.mk' {P : Program} {t e : TypeId} {z : Value} {k bytes : Nat} (ht : P.underlying t = some (.slice e))
    (h : (P.info? e).map (fun i => (i.zero, i.size, i.bytes)) = some (some z, k, bytes)) (h1 : z.cells.size = k) (hk : 0 < k) (hp : 0 < bytes) : EtyK P t e z k bytes := by
  obtain ⟨i, hi, h0, h1', h2⟩ := info_parts h
  exact ⟨ht, ⟨i, hi, h0, h1', h2⟩, h1, hk, hp⟩
theorem own_formK {w : World} {base n k : Nat} {e : TypeId} {v : Value} {xs : List Value} (h : w.ownsRow base e k v n xs) : ∃ A c, v = .slice A n c ∧ n ≤ c ∧ c ≤ maxLen := by
  rcases h.2 with ⟨rfl, rfl⟩ | ⟨g, cap, cur, rfl, _, _, h1, h2, _, _⟩
  · exact ⟨none, 0, rfl, Nat.le_refl _, by simp [maxLen]⟩
  · exact ⟨_, cap, rfl, h1, h2⟩
/-- What a slice of elements of k cells holds, all cells one behind the other. -/
structure SlC (w : World) (B : Nat) (A : Option Addr) (m k : Nat) (xs : List Value) : Prop where
  len : xs.length = m * k
  cells : ∀ (j : Nat) (u : Value), xs[j]? = some u → ∃ ad, A = some ad ∧ ad.block < B ∧ w.cell? (ad.add j) = some u
theorem SlC.of_own {w : World} {base n c k : Nat} {e : TypeId} {A : Option Addr} {xs : List Value} (h : w.ownsRow base e k (.slice A n c) n xs) : SlC w w.heap.size A n k xs := by
  refine ⟨h.1, fun j u hu => ?_⟩
  rcases h.2 with ⟨h1, h2⟩ | ⟨g, cap, cur, h1, _, hg, hnc, hcm, hcs, ht⟩
  · have := h.1
    subst h2
    have : xs = [] := List.eq_nil_of_length_eq_zero (by omega)
    subst this
    simp at hu
  · injection h1 with h1 _ _
    subst h1
    exact ⟨_, rfl, (h.lt g rfl).2, h.cells (g := g) rfl j u hu⟩
theorem SlC.below {w w' : World} {B m k : Nat} {A : Option Addr} {xs : List Value} (h : SlC w B A m k xs) (hb : Below B w w') : SlC w' B A m k xs :=
  ⟨h.len, fun j u hu => by
    obtain ⟨ad, e, hB, hc⟩ := h.cells j u hu
    exact ⟨ad, e, hB, (hb.cell (by rw [addr_block]; exact hB)).trans hc⟩⟩
theorem run_appK {P : Program} (w : World) {t ty e : TypeId} {z : Value} {k bytes : Nat} (hE : EtyK P t e z k bytes) (base : Nat) (v : Value) (n : Nat) (xs : List Value) (hown : w.ownsRow base e k v n xs)
    (B : Nat) (A : Option Addr) (m c : Nat) (news : List Value) (hr : SlC w B A m k news) (h1 : ∀ u ∈ news, u.oneCell' = true)
    (hbytes : (n + m) * bytes ≤ 140737488355328) (hbase : base ≤ w.heap.size) :
    ∃ A' c' w', (Builtin.append_ #[t, t] ty #[v, .slice A m c]).run P w = .ok (.slice A' (n + m) c') w' ∧ w'.ownsRow base e k (.slice A' (n + m) c') (n + m) (xs ++ news) ∧
      w.grownBy w' v.ownBlock ∧ ((Value.slice A' (n + m) c').ownBlock = v.ownBlock ∨ (Value.slice A' (n + m) c').ownBlock = some w.heap.size) := by
  obtain ⟨i, hi, hz, hs, hb⟩ := hE.info
  have hle : n + m ≤ 140737488355328 := Nat.le_trans (Nat.le_mul_of_pos_right _ hE.pos) hbytes
  have h63 : n + m ≤ maxLen := by simp only [maxLen]; omega
  rcases A with _ | ad
  · have hm : m = 0 := by
      rcases Nat.eq_zero_or_pos m with h0 | h0
      · exact h0
      · have hp := Nat.mul_pos h0 hE.kpos
        have hl := hr.len
        obtain ⟨ad, h, -⟩ := hr.cells 0 _ (List.getElem?_eq_getElem (by omega))
        cases h
    subst hm
    have hn : news = [] := List.eq_nil_of_length_eq_zero (by rw [hr.len]; omega)
    subst hn
    obtain ⟨A, c1, rfl, _, _⟩ := own_formK hown
    refine ⟨A, c1, w, ?_, by simpa using hown, ⟨rfl, rfl, rfl, Nat.le_refl _, fun _ _ _ => rfl⟩, .inl rfl⟩
    rcases hown.2 with ⟨hv, rfl⟩ | ⟨g, cap, cur, hv, _, _, hnc, _⟩
    · injection hv with hv1 _ hv2
      subst hv1 hv2
      simp [Builtin.append_, run_underlying hE.under, sizeOf, typeInfo, hi, Builtin.lenOf, Builtin.firstCells]
    · injection hv with hv1 _ hv2
      subst hv1 hv2
      simp [Builtin.append_, run_underlying hE.under, sizeOf, typeInfo, hi, Builtin.lenOf, Builtin.firstCells, hnc, storeCells]
  · have hcells : ∀ j u, news[j]? = some u → w.cell? (ad.add j) = some u := by
      intro j u hu
      obtain ⟨ad', h, _, hc⟩ := hr.cells j u hu
      injection h with h
      subst h
      exact hc
    obtain ⟨v', w', hrun, h2, h3, _, h5⟩ := run_append_own_at (P := P) w base t ty e i z k bytes hE.under hi hz hs hb hE.cells hE.kpos v n xs hown ad m c news hr.len hcells h1 h63 hbytes hbase
    obtain ⟨A', c', rfl, _, _⟩ := own_formK h2
    exact ⟨A', c', w', hrun, h2, h3, h5⟩
/-- A slice of one element that the text writes out; one of none. -/
theorem one_slice {P : Program} {t e : TypeId} {z : Value} {k bytes : Nat} (hE : EtyK P t e z k bytes) (w : World) (xs : Array Value) (h : xs.size = k) (hk5 : k ≤ 1000) :
    (Instr.buildSlice t 1 #[(0, .agg xs)]).run P w = .ok (.slice (some ⟨w.heap.size, 0, none⟩) 1 1) (w.alloc (.cells xs e)) := by
  obtain ⟨ie, hi, h1, h2, h3⟩ := hE.info
  have hk := hE.kpos
  have hfill := Great.fill_whole (s := k) (by omega) [Value.agg xs] ((Array.range (1 * ie.size)).map (z.cells[· % z.cells.size]!)) (fun v hv => by
    rw [List.mem_singleton] at hv
    subst hv
    simp [Value.cells, h]) (by simp [h2])
  refine run_buildSlice w t e 1 _ xs ie _ hE.under hi h1 (by rw [h2]; omega) (by rw [h2]; omega) ?_
  rw [h2] at hfill ⊢
  simpa [Value.cells] using hfill
theorem no_slice {P : Program} {t e : TypeId} {z : Value} {k bytes : Nat} (hE : EtyK P t e z k bytes) (w : World) :
    (Instr.buildSlice t 0 #[]).run P w = .ok (.slice (some ⟨w.heap.size, 0, none⟩) 0 0) (w.alloc (.cells #[] e)) := by
  obtain ⟨ie, hi, h1, h2, h3⟩ := hE.info
  simp [Instr.buildSlice, run_underlying hE.under, sizeOf, typeInfo, hi, Instr.fill, newRow]
  congr 2
  exact Array.eq_empty_of_size_eq_zero (by simp)
theorem wpList_appK {P : Program} {w : World} {ops : Array Oper} {rest : List Oper} {o : Oper} {a : Act} {Q : Exit → Act → World → Prop} (hgd : o.guard = none) (s x : Operand) (t : TypeId)
    (ho : o.op = .call { callee := .builtin .append, args := #[s, x], argTypes := #[t, t] })
    {e : TypeId} {z : Value} {k bytes : Nat} (hE : EtyK P t e z k bytes) (base : Nat) (v : Value) (n : Nat) (xs : List Value) (hs : a.eval s = v) (hown : w.ownsRow base e k v n xs)
    (B : Nat) (A : Option Addr) (m c : Nat) (news : List Value) (hx : a.eval x = .slice A m c) (hr : SlC w B A m k news) (h1 : ∀ u ∈ news, u.oneCell' = true)
    (hbytes : (n + m) * bytes ≤ 140737488355328) (hbase : base ≤ w.heap.size)
    (h : ∀ A' c' w', w'.ownsRow base e k (.slice A' (n + m) c') (n + m) (xs ++ news) → w.grownBy w' v.ownBlock →
      ((Value.slice A' (n + m) c').ownBlock = v.ownBlock ∨ (Value.slice A' (n + m) c').ownBlock = some w.heap.size) → wpList P ops Q rest (a.put o.dst (.slice A' (n + m) c')) w') : wpList P ops Q (o :: rest) a w := by
  refine wpList_plain hgd fun K' hK' => ?_
  obtain ⟨A', c', w', hrun, h2, h3, h4⟩ := run_appK (P := P) w (ty := o.type) hE base v n xs hown B A m c news hr h1 hbytes hbase
  unfold Oper.wp execOp
  simp only [ho, resolve, invoke, builtin, Sem.run_bind, Sem.run_pure, Result.andThen_ok, List.map_toArray, List.map_cons, List.map_nil, hs, hx, hrun]
  exact hK' _ _ (h A' c' w' h2 h3 h4)
theorem slc_new (w : World) (l : List Value) (t : TypeId) {m k : Nat} (h : l.length = m * k) : SlC (w.alloc (.cells l.toArray t)) (w.heap.size + 1) (some ⟨w.heap.size, 0, none⟩) m k l := by
  refine ⟨h, fun i u hu => ⟨_, rfl, by simp, ?_⟩⟩
  rw [Addr.add_mid, Nat.zero_add, (Blk.new w _ _).cell]
  simpa using hu
theorem step_appK {P : Program} {w : World} {ops : Array Oper} {o : Oper} {a : Act} {K : Act → World → Prop} {Q : Exit → Act → World → Prop} {E : Prop} (hgd : o.guard = none) (s x : Operand) (t : TypeId)
    (ho : o.op = .call { callee := .builtin .append, args := #[s, x], argTypes := #[t, t] })
    {e : TypeId} {z : Value} {k bytes : Nat} (hE : EtyK P t e z k bytes) (base : Nat) (v : Value) (n : Nat) (xs : List Value) (hs : a.eval s = v) (hown : w.ownsRow base e k v n xs)
    (B : Nat) (A : Option Addr) (m c : Nat) (news : List Value) (hx : a.eval x = .slice A m c) (hr : SlC w B A m k news) (h1 : ∀ u ∈ news, u.oneCell' = true)
    (hbytes : (n + m) * bytes ≤ 140737488355328) (hbase : base ≤ w.heap.size)
    (h : ∀ A' c' w', w'.ownsRow base e k (.slice A' (n + m) c') (n + m) (xs ++ news) → w.grownBy w' v.ownBlock →
      ((Value.slice A' (n + m) c').ownBlock = v.ownBlock ∨ (Value.slice A' (n + m) c').ownBlock = some w.heap.size) → K (a.put o.dst (.slice A' (n + m) c')) w') :
    if Region.wanted o (yielded ops a.tmps) = true then Oper.wp P o a w K Q else E := by
  rw [if_pos (by simp [Region.wanted, hgd])]
  obtain ⟨A', c', w', hrun, h2, h3, h4⟩ := run_appK (P := P) w (ty := o.type) hE base v n xs hown B A m c news hr h1 hbytes hbase
  unfold Oper.wp execOp
  simp only [ho, resolve, invoke, builtin, Sem.run_bind, Sem.run_pure, Result.andThen_ok, List.map_toArray, List.map_cons, List.map_nil, hs, hx, hrun]
  exact h A' c' w' h2 h3 h4
end Go.Proofs.YtbamdibpkkponaaDoor

/- What an argument's reading says of the cells: one law for every type of integers, bools, texts, structs, arrays and slices. -/
namespace Go.Proofs.YtbamdibpkkponaaDoor
open Go.RowKit Go.WideShapes

/-- So the cells of a type read, to a depth. -/
def Rd (P : Program) (w : World) : Nat → TypeId → List Value → Prop
  | 0, _, _ => True
  | n + 1, t, cs =>
    match P.underlying t with
    | some (.struct fs) => cs.length = P.cellsOf t ∧ ∀ (j : Nat) (f : Field), fs[j]? = some f → Rd P w n f.type ((cs.drop f.offset).take (P.cellsOf f.type))
    | some (.array k e) => cs.length = P.cellsOf t ∧ ∀ i, i < k → Rd P w n e ((cs.drop (i * P.cellsOf e)).take (P.cellsOf e))
    | some (.int k) => ∃ m, cs = [.int k m] ∧ (Lit.int k m).wf = true
    | some .bool => ∃ b, cs = [.bool b]
    | some .string => ∃ s : ByteArray, cs = [.string s] ∧ s.size ≤ maxLen
    | some (.slice e) => cs = [.slice none 0 0] ∨ ∃ a len cap, cs = [.slice (some a) len cap] ∧ len ≤ cap ∧ cap ≤ maxLen ∧
        ∀ i, i < len → ∃ cs', cs'.length = P.cellsOf e ∧ (∀ j, j < P.cellsOf e → w.cell? (a.add (i * P.cellsOf e + j)) = cs'[j]?) ∧ Rd P w n e cs'
    | _ => True

section
variable {H : Type} {enc : TypeId × Value → H} {P : Program} {w : World} {base : Nat} {held : Bool}
theorem rd_of_trod (n : Nat) : ∀ {fuel : Nat} {t : TypeId} {cs : List Value} {x : DataW H × List MemPlace}, DataW.trod enc P w base (fun _ => true) held fuel t cs = some x → Rd P w n t cs := by
  induction n with
  | zero => intros; trivial
  | succ n ih =>
    intro fuel t cs x h
    unfold Rd
    split
    · rename_i fs ht
      obtain ⟨xs, m, _, _, hl, hxl, hf⟩ := DataW.trod_struct ht h
      refine ⟨hl, fun j f hj => ?_⟩
      have h1 := hf j f hj
      have hjl : j < xs.length := by rw [hxl]; exact (Array.getElem?_eq_some_iff.1 hj).1
      rw [List.getElem?_eq_getElem hjl] at h1
      exact ih h1
    · rename_i k e ht
      obtain ⟨xs, m, _, _, hl, hxl, hf⟩ := DataW.trod_array ht h
      refine ⟨hl, fun i hi => ?_⟩
      have h1 := hf i hi
      rw [List.getElem?_eq_getElem (show i < xs.length by omega)] at h1
      exact ih h1
    · rename_i k ht
      obtain ⟨m, hcs, _, hw⟩ := DataW.trod_int ht h
      exact ⟨m, hcs, hw⟩
    · rename_i ht
      obtain ⟨b, hcs, _⟩ := DataW.trod_bool ht h
      exact ⟨b, hcs⟩
    · rename_i ht
      obtain ⟨s, hcs, _, hs⟩ := DataW.trod_string ht h
      exact ⟨s, hcs, hs⟩
    · rename_i e ht
      rcases Go.Deep.open_slice ht h with ⟨h0, _⟩ | ⟨a, len, cap, m, n', D, Pl, hcs, _, hl, hm, hmm, _, hi⟩
      · exact .inl h0
      · refine .inr ⟨a, len, cap, hcs, hl, hm, fun i hil => ?_⟩
        simp only [if_true] at hmm
        obtain ⟨cs', hc, ht'⟩ := hi i (by omega)
        obtain ⟨_, hcl, hat⟩ := World.cells?_some hc
        exact ⟨cs', hcl, fun j hj => by rw [← hat j hj, addr_add2], ih ht'⟩
    · trivial

section
variable {P : Program} {w : World} {n : Nat} {t : TypeId} {cs : List Value}
theorem rd_int {k : IntKind} (ht : P.underlying t = some (.int k)) (h : Rd P w (n + 1) t cs) : ∃ m, cs = [.int k m] ∧ (Lit.int k m).wf = true := by
  unfold Rd at h; rw [ht] at h; exact h
theorem rd_bool (ht : P.underlying t = some .bool) (h : Rd P w (n + 1) t cs) : ∃ b, cs = [.bool b] := by
  unfold Rd at h; rw [ht] at h; exact h
theorem rd_array {k : Nat} {e : TypeId} (ht : P.underlying t = some (.array k e)) (h : Rd P w (n + 1) t cs) :
    cs.length = P.cellsOf t ∧ ∀ i, i < k → Rd P w n e ((cs.drop (i * P.cellsOf e)).take (P.cellsOf e)) := by
  unfold Rd at h; rw [ht] at h; exact h
theorem rd_len {fs : Array Field} (ht : P.underlying t = some (.struct fs)) (h : Rd P w (n + 1) t cs) : cs.length = P.cellsOf t := by
  unfold Rd at h; rw [ht] at h; exact h.1
theorem rd_field {fs : Array Field} (ht : P.underlying t = some (.struct fs)) (h : Rd P w (n + 1) t cs) (j : Nat) {u o : Nat} (hj : (fs[j]?).map (fun f => (f.type, f.offset)) = some (u, o)) {c : Nat} (hc : P.cellsOf u = c) :
    Rd P w n u ((cs.drop o).take c) := by
  unfold Rd at h; rw [ht] at h
  cases hf : fs[j]? with
  | none => rw [hf] at hj; cases hj
  | some f =>
    rw [hf] at hj
    simp only [Option.map_some, Option.some.injEq, Prod.mk.injEq] at hj
    have := h.2 j f hf
    rw [hj.1, hj.2, hc] at this
    exact this
theorem rd_slice {e : TypeId} (ht : P.underlying t = some (.slice e)) (h : Rd P w (n + 1) t cs) :
    cs = [.slice none 0 0] ∨ ∃ a len cap, cs = [.slice (some a) len cap] ∧ len ≤ cap ∧ cap ≤ maxLen ∧
        ∀ i, i < len → ∃ cs', cs'.length = P.cellsOf e ∧ (∀ j, j < P.cellsOf e → w.cell? (a.add (i * P.cellsOf e + j)) = cs'[j]?) ∧ Rd P w n e cs' := by
  unfold Rd at h; rw [ht] at h; exact h
theorem take_one {cs : List Value} {o : Nat} {c : Value} (h : cs[o]? = some c) : (cs.drop o).take 1 = [c] := by
  have hl : o < cs.length := (List.getElem?_eq_some_iff.1 h).1
  rw [List.drop_eq_getElem_cons hl]
  rw [List.getElem?_eq_getElem hl] at h
  injection h with h
  rw [h]; rfl
theorem rd_fld_int {fs : Array Field} {k : IntKind} (ht : P.underlying t = some (.struct fs)) (h : Rd P w (n + 2) t cs) (j : Nat) {u o : Nat} (hj : (fs[j]?).map (fun f => (f.type, f.offset)) = some (u, o)) (hc : P.cellsOf u = 1) (hu : P.underlying u = some (.int k))
    {c : Value} (hcs : cs[o]? = some c) : ∃ m, c = .int k m ∧ (Lit.int k m).wf = true := by
  have h1 := rd_field ht h j hj hc
  rw [take_one hcs] at h1
  obtain ⟨m, hm, hw⟩ := rd_int hu h1
  simp at hm
  exact ⟨m, hm, hw⟩
theorem rd_arr_int {k : Nat} {e : TypeId} {kd : IntKind} (ht : P.underlying t = some (.array k e)) (h : Rd P w (n + 2) t cs) (hc : P.cellsOf e = 1) (he : P.underlying e = some (.int kd)) (i : Nat) (hi : i < k)
    {c : Value} (hcs : cs[i]? = some c) : ∃ m, c = .int kd m ∧ (Lit.int kd m).wf = true := by
  have h1 := (rd_array ht h).2 i hi
  rw [hc, Nat.mul_one, take_one hcs] at h1
  obtain ⟨m, hm, hw⟩ := rd_int he h1
  simp at hm
  exact ⟨m, hm, hw⟩
end

/-- So an argument reads. -/
def Arg (P : Program) (w : World) (t : TypeId) (v : Value) : Prop :=
  match P.underlying t with
  | some (.struct _) | some (.array _ _) => ∃ cs, v = .agg cs ∧ Rd P w 10 t cs.toList
  | _ => Rd P w 10 t [v]
theorem arg_of {r : Reach} {b : Nat} {t : TypeId} {v : Value} {d : DataW H} {p : List MemPlace} (hv : Value.okWide P w r b t v) (h : DataW.Trod enc P w base (fun _ => true) held t v d p) : Arg P w t v := by
  obtain ⟨fuel, hf⟩ := h
  unfold Arg
  split
  · rename_i fs ht
    obtain ⟨cs, rfl, _⟩ := okWide_struct ht hv
    exact ⟨cs, rfl, rd_of_trod 10 hf⟩
  · rename_i k e ht
    simp only [Value.okWide, ht] at hv
    obtain ⟨cs, rfl, _⟩ := hv
    exact ⟨cs, rfl, rd_of_trod 10 hf⟩
  · rename_i h1 h2
    have hc : v.cells.toList = [v] := by
      cases v with
      | agg cs =>
        exfalso
        unfold Value.okWide at hv
        split at hv
        · rename_i fs hs; exact h1 _ hs
        · rename_i k e hs; exact h2 _ _ hs
        · unfold Cell.okWide at hv
          split at hv <;> first | (simp_all; done) | skip
          unfold Cell.ok at hv
          split at hv <;> simp_all
      | _ => rfl
    rw [hc] at hf
    exact rd_of_trod 10 hf
end

theorem arg_one {P : Program} {w : World} {t : TypeId} {v : Value} (h : Arg P w t v) {d : TypeDesc} (ht : P.underlying t = some d) (hs : ∀ fs, d ≠ .struct fs) (ha : ∀ k e, d ≠ .array k e) : Rd P w 10 t [v] := by
  unfold Arg at h
  split at h
  · rename_i fs hf; rw [ht] at hf; exact absurd (Option.some.inj hf) (hs _)
  · rename_i k e hf; rw [ht] at hf; exact absurd (Option.some.inj hf) (ha _ _)
  · exact h
theorem arg_agg {P : Program} {w : World} {t : TypeId} {v : Value} (h : Arg P w t v) (ht : (∃ fs, P.underlying t = some (.struct fs)) ∨ ∃ k e, P.underlying t = some (.array k e)) : ∃ cs : Array Value, v = .agg cs ∧ Rd P w 10 t cs.toList := by
  unfold Arg at h
  rcases ht with ⟨fs, ht⟩ | ⟨k, e, ht⟩ <;> rw [ht] at h <;> exact h
theorem list_of {α : Type} {Q : Nat → α → Prop} (n : Nat) (h : ∀ i, i < n → ∃ r, Q i r) : ∃ rs : List α, rs.length = n ∧ ∀ i (hi : i < rs.length), Q i rs[i] := by
  induction n with
  | zero => exact ⟨[], rfl, fun i hi => absurd hi (by simp)⟩
  | succ n ih =>
    obtain ⟨rs, hl, hq⟩ := ih (fun i hi => h i (by omega))
    obtain ⟨r, hr⟩ := h n (by omega)
    refine ⟨rs ++ [r], by simp [hl], fun i hi => ?_⟩
    by_cases hin : i < rs.length
    · rw [List.getElem_append_left hin]; exact hq i hin
    · have : i = n := by simp at hi; omega
      subst this
      rw [List.getElem_append_right (by omega)]
      simpa [hl] using hr
theorem cell_lt {w : World} {a : Addr} {v : Value} (h : w.cell? a = some v) : a.block < w.heap.size := by
  rcases Nat.lt_or_ge a.block w.heap.size with hh | hh
  · exact hh
  · exfalso
    unfold World.cell? at h
    rw [Array.getElem?_eq_none hh] at h
    cases h

/-- A slice of bytes that came in. -/
theorem by_of_rd {P : Program} {w : World} {n : Nat} {t e : TypeId} {v : Value} (ht : P.underlying t = some (.slice e)) (he : P.underlying e = some (.int .u8)) (hc : P.cellsOf e = 1) (h : Rd P w (n + 2) t [v]) :
    ∃ A len cap l, v = .slice A len cap ∧ len ≤ cap ∧ cap ≤ 9223372036854775807 ∧ By w w.heap.size A len l := by
  unfold Rd at h
  rw [ht] at h
  rcases h with h | ⟨a, len, cap, h, hl, hm, hi⟩
  · simp only [List.cons.injEq, and_true] at h
    exact ⟨none, 0, 0, [], h, Nat.le_refl _, by omega, Sl.nil_⟩
  · simp only [List.cons.injEq, and_true] at h
    rw [hc] at hi
    have hcell : ∀ i, i < len → ∃ m : Int, 0 ≤ m ∧ m < 256 ∧ w.cell? (a.add i) = some (.int .u8 m) := by
      intro i hil
      obtain ⟨cs', hcl, hat, hr⟩ := hi i hil
      unfold Rd at hr
      rw [he] at hr
      obtain ⟨m, rfl, hwf⟩ := hr
      have := hat 0 (by omega)
      simp [Lit.wf, IntKind.min, IntKind.max, IntKind.signed, IntKind.bits] at hwf
      exact ⟨m, by omega, by omega, by simpa using this⟩
    refine ⟨some a, len, cap, (List.range len).map fun i => match w.cell? (a.add i) with | some (.int .u8 m) => UInt8.ofNat m.toNat | _ => 0, h, hl, by simpa [maxLen] using hm, by simp [u8s], fun j u hu => ?_⟩
    rw [u8s_get, List.getElem?_map] at hu
    by_cases hj : j < len
    · rw [List.getElem?_range hj] at hu
      obtain ⟨m, h0, h1, h2⟩ := hcell j hj
      simp only [Option.map_some, h2, Option.some.injEq] at hu
      have hlt : a.block < w.heap.size := by
        rcases Nat.lt_or_ge a.block w.heap.size with hh | hh
        · exact hh
        · exfalso
          unfold World.cell? at h2
          rw [addr_block, Array.getElem?_eq_none hh] at h2
          cases h2
      refine ⟨a, rfl, hlt, ?_⟩
      rw [h2, ← hu, UInt8.toNat_ofNat']
      congr 2
      omega
    · rw [List.getElem?_eq_none (by simp; omega)] at hu
      cases hu
/-- The bounds of an integer that fits its kind. -/
theorem wf_bd_i64 {n : Int} (h : (Lit.int .i64 n).wf = true) : -9223372036854775808 ≤ n ∧ n ≤ 9223372036854775807 := by
  simp [Lit.wf, IntKind.min, IntKind.max, IntKind.signed, IntKind.bits] at h; omega
theorem wf_bd_u32 {n : Int} (h : (Lit.int .u32 n).wf = true) : ∃ k : Nat, n = (k : Int) ∧ k < 4294967296 := by
  simp [Lit.wf, IntKind.min, IntKind.max, IntKind.signed, IntKind.bits] at h
  exact ⟨n.toNat, by omega, by omega⟩
theorem wf_bd_u8 {n : Int} (h : (Lit.int .u8 n).wf = true) : ∃ k : Nat, n = (k : Int) ∧ k < 256 := by
  simp [Lit.wf, IntKind.min, IntKind.max, IntKind.signed, IntKind.bits] at h
  exact ⟨n.toNat, by omega, by omega⟩
end Go.Proofs.YtbamdibpkkponaaDoor
