import Derived.Below
import Derived.WalkKit
import Derived.WalkSpells
import Derived.WalkLawsBesides
import Derived.Laws.BytesArg
import Derived.Maps.AppendAt
import Derived.Lib.AppendZerosOnto
import Derived.Laws.MakeOwn
import Derived.Test.YtfaingklglelnaaProg
import Derived.Deep.RegionWith
import Derived.Deep.DeepCutAuto
import Derived.Deep.QuietTactic
import Derived.BigQuiet
import Derived.Deep.RegionHeld3
import Derived.Deep.MidRow
/- Words for memory: a slice that reads as a list; bytes as values; what a call leaves as it was. -/
namespace Go.Proofs.Ytfaingklglelnaa
open Go.RowKit

/-- A fact kept from the walk. -/
theorem hide {p : Prop} (h : p) : Hid p := h

theorem bel_dN {B : Nat} {a w : World} (h : Below B a w) (n : Nat) : Below B a (w.drewN n) := ⟨h.os, h.tape, h.output, h.size, h.block⟩

/-- The slice value at A of length n holds the cells xs, in a block below B. -/
structure Sl (w : World) (B : Nat) (A : Option Addr) (n : Nat) (xs : List Value) : Prop where
  len : xs.length = n
  cells : ∀ j u, xs[j]? = some u → ∃ ad, A = some ad ∧ ad.block < B ∧ w.cell? (ad.add j) = some u

theorem addr_block (a : Addr) (n : Nat) : (a.add n).block = a.block := by unfold Addr.add; split <;> rfl
theorem addr_add2 (a : Addr) (i j : Nat) : (a.add i).add j = a.add (i + j) := by
  unfold Addr.add
  by_cases hi : i = 0 <;> by_cases hj : j = 0 <;> simp [hi, hj, Nat.add_assoc]

/-- The address of what begins at i, where there is room for c. -/
def cutA (A : Option Addr) (c i : Nat) : Option Addr := if c = i then A else A.map (·.add i)
theorem cutA_zero (A : Option Addr) (c : Nat) : (if c = 0 then A else A.map (·.add (0 * 1))) = A := by
  split
  · rfl
  · cases A <;> simp [Addr.add]

section
variable {w w' : World} {B B' n : Nat} {A : Option Addr} {xs : List Value}
theorem Sl.nil_ : Sl w B A 0 [] := ⟨rfl, fun j u h => by simp at h⟩
theorem Sl.keep (h : Sl w B A n xs) (hk : ∀ p : Addr, p.block < B → w'.cell? p = w.cell? p) : Sl w' B A n xs :=
  ⟨h.len, fun j u hu => by
    obtain ⟨ad, e, hb, hc⟩ := h.cells j u hu
    exact ⟨ad, e, hb, (hk _ (by rw [addr_block]; exact hb)).trans hc⟩⟩
theorem Sl.more (h : Sl w B A n xs) (hB : B ≤ B') : Sl w B' A n xs :=
  ⟨h.len, fun j u hu => by
    obtain ⟨ad, e, hb, hc⟩ := h.cells j u hu
    exact ⟨ad, e, by omega, hc⟩⟩
theorem Sl.below (h : Sl w B A n xs) (hb : Below B w w') : Sl w' B A n xs := h.keep fun _ hp => hb.cell hp
theorem Sl.drew (h : Sl w B A n xs) : Sl w.drew B A n xs := h.keep fun _ _ => rfl
theorem Sl.drewN (h : Sl w B A n xs) (k : Nat) : Sl (w.drewN k) B A n xs := h.keep fun _ _ => rfl
theorem Sl.alloc (h : Sl w B A n xs) (hB : B ≤ w.heap.size) (o : Obj) : Sl (w.alloc o) B A n xs := h.keep fun p hp => World.cell?_alloc_lt w o p (by omega)
theorem Sl.setCell (h : Sl w B A n xs) {p : Addr} (hB : B ≤ p.block) (u : Value) : Sl (w.setCell p u) B A n xs :=
  h.keep fun q hq => World.cell?_setCell_other w p q u (fun e => by subst e; omega)
theorem Sl.get (h : Sl w B A n xs) {k : Nat} (hk : k < n) : ∃ ad u, A = some ad ∧ ad.block < B ∧ xs[k]? = some u ∧ w.cell? (ad.add k) = some u := by
  have hl : k < xs.length := by rw [h.len]; exact hk
  obtain ⟨ad, e, hb, hc⟩ := h.cells k _ (List.getElem?_eq_getElem hl)
  exact ⟨ad, _, e, hb, List.getElem?_eq_getElem hl, hc⟩
/-- A part of a slice, as the model writes its address. -/
theorem Sl.cut (h : Sl w B A n xs) {i j cap : Nat} (hij : i ≤ j) (hj : j ≤ n) (hc : j ≤ cap) :
    Sl w B (cutA A cap i) (j - i) ((xs.drop i).take (j - i)) := by
  unfold cutA
  refine ⟨by rw [List.length_take, List.length_drop, h.len]; omega, fun k u hu => ?_⟩
  rw [List.getElem?_take] at hu
  split at hu
  · rename_i hk
    rw [List.getElem?_drop] at hu
    obtain ⟨ad, rfl, hb, hcell⟩ := h.cells (i + k) u hu
    rw [if_neg (by omega)]
    exact ⟨ad.add i, rfl, by rw [addr_block]; exact hb, by rw [addr_add2]; exact hcell⟩
  · cases hu
end

/-- Bytes as cells. -/
def u8s (l : List UInt8) : List Value := l.map fun b => Value.int .u8 (b.toNat : Int)
theorem u8s_length (l : List UInt8) : (u8s l).length = l.length := by simp [u8s]
theorem u8s_nil : u8s [] = [] := rfl
theorem u8s_append (a b : List UInt8) : u8s (a ++ b) = u8s a ++ u8s b := List.map_append
theorem u8s_drop (l : List UInt8) (k : Nat) : (u8s l).drop k = u8s (l.drop k) := List.map_drop.symm
theorem u8s_take (l : List UInt8) (k : Nat) : (u8s l).take k = u8s (l.take k) := List.map_take.symm
theorem u8s_get (l : List UInt8) (k : Nat) : (u8s l)[k]? = l[k]?.map fun b => Value.int .u8 (b.toNat : Int) := by simp [u8s]
theorem u8s_one (l : List UInt8) : ∀ u ∈ u8s l, u.oneCell' = true := by
  intro u hu
  obtain ⟨b, _, rfl⟩ := List.mem_map.1 hu
  rfl

/-- A slice of bytes. -/
abbrev By (w : World) (B : Nat) (A : Option Addr) (n : Nat) (l : List UInt8) : Prop := Sl w B A n (u8s l)
theorem By.get {w : World} {B : Nat} {A : Option Addr} {n : Nat} {l : List UInt8} (h : By w B A n l) {k : Nat} (hk : k < n) :
    ∃ (hl : k < l.length) (ad : Addr), A = some ad ∧ w.cell? (ad.add k) = some (.int .u8 (l[k].toNat : Int)) := by
  have hl : k < l.length := by have := h.len; rw [u8s_length] at this; omega
  obtain ⟨ad, u, e, _, hx, hc⟩ := Sl.get h hk
  rw [u8s_get, List.getElem?_eq_getElem hl] at hx
  simp only [Option.map_some, Option.some.injEq] at hx
  exact ⟨hl, ad, e, by rw [hc, ← hx]⟩
theorem By.length {w : World} {B : Nat} {A : Option Addr} {n : Nat} {l : List UInt8} (h : By w B A n l) : l.length = n := by
  have := h.len; rwa [u8s_length] at this


/-- What the program says of an element type of one cell. -/
structure Ety (P : Program) (t e : TypeId) (z : Value) (bytes : Nat) : Prop where
  under : P.underlying t = some (.slice e)
  info : ∃ i, P.info? e = some i ∧ i.zero = some z ∧ i.size = 1 ∧ i.bytes = bytes
  one : z.cells.size = 1
  pos : 0 < bytes
theorem Ety.mk' {P : Program} {t e : TypeId} {z : Value} {bytes : Nat} (ht : P.underlying t = some (.slice e))
    (h : (P.info? e).map (fun i => (i.zero, i.size, i.bytes)) = some (some z, 1, bytes)) (h1 : z.cells.size = 1) (hp : 0 < bytes) : Ety P t e z bytes := by
  obtain ⟨i, hi, h0, h1', h2⟩ := info_parts h
  exact ⟨ht, ⟨i, hi, h0, h1', h2⟩, h1, hp⟩

section
variable {P : Program} {t e : TypeId} {z : Value} {bytes : Nat} (hE : Ety P t e z bytes) (A : Option Addr) (n c : Nat) (w : World)
include hE
theorem run_cut_h (k : Nat) (kd : IntKind) (hk : k ≤ c) :
    (Instr.slice t (.slice A n c) none (some (.int kd (k : Int))) none).run P w = .ok (.slice A k c) w := by
  obtain ⟨i, hi, hz, hs, hb⟩ := hE.info
  simp [Instr.slice, run_underlying hE.under, sizeOf, typeInfo, hi, hs, Instr.sliceBounds, Instr.sliceBound, asIntOf, hk]
  have := cutA_zero A c
  simpa using this
theorem run_cut_l (k : Nat) (kd : IntKind) (hk : k ≤ n) :
    (Instr.slice t (.slice A n c) (some (.int kd (k : Int))) none none).run P w = .ok (.slice (cutA A c k) (n - k) (c - k)) w := by
  obtain ⟨i, hi, hz, hs, hb⟩ := hE.info
  simp [Instr.slice, run_underlying hE.under, sizeOf, typeInfo, hi, hs, Instr.sliceBounds, Instr.sliceBound, asIntOf, hk, cutA]
theorem run_cut_lh (k h : Nat) (kd kd' : IntKind) (hk : k ≤ h) (hh : h ≤ c) :
    (Instr.slice t (.slice A n c) (some (.int kd (k : Int))) (some (.int kd' (h : Int))) none).run P w = .ok (.slice (cutA A c k) (h - k) (c - k)) w := by
  obtain ⟨i, hi, hz, hs, hb⟩ := hE.info
  simp [Instr.slice, run_underlying hE.under, sizeOf, typeInfo, hi, hs, Instr.sliceBounds, Instr.sliceBound, asIntOf, hk, hh, cutA]
theorem run_cut_hm (h m : Nat) (kd kd' : IntKind) (hk : h ≤ m) (hh : m ≤ c) :
    (Instr.slice t (.slice A n c) none (some (.int kd (h : Int))) (some (.int kd' (m : Int)))).run P w = .ok (.slice A h m) w := by
  obtain ⟨i, hi, hz, hs, hb⟩ := hE.info
  simp [Instr.slice, run_underlying hE.under, sizeOf, typeInfo, hi, hs, Instr.sliceBounds, Instr.sliceBound, asIntOf, hk, hh]
  have := cutA_zero A m
  simpa using this
end
theorem Sl.head {w : World} {B n : Nat} {A : Option Addr} {xs : List Value} (h : Sl w B A n xs) {k : Nat} (hk : k ≤ n) : Sl w B A k (xs.take k) := by
  refine ⟨by rw [List.length_take, h.len]; omega, fun j u hu => ?_⟩
  rw [List.getElem?_take] at hu
  split at hu
  · exact h.cells j u hu
  · cases hu
theorem Sl.tail {w : World} {B n : Nat} {A : Option Addr} {xs : List Value} (h : Sl w B A n xs) {k c : Nat} (hk : k ≤ n) (hc : n ≤ c) : Sl w B (cutA A c k) (n - k) (xs.drop k) := by
  have := h.cut (i := k) (j := n) (cap := c) hk (Nat.le_refl _) hc
  rwa [List.take_of_length_le (by rw [List.length_drop, h.len]; exact Nat.le_refl _)] at this

theorem own_form {w : World} {base n : Nat} {e : TypeId} {v : Value} {xs : List Value} (h : w.ownsRow base e 1 v n xs) :
    ∃ A c, v = .slice A n c ∧ n ≤ c ∧ c ≤ maxLen := by
  rcases h.2 with ⟨rfl, rfl⟩ | ⟨g, cap, cur, rfl, _, _, h1, h2, _, _⟩
  · exact ⟨none, 0, rfl, Nat.le_refl _, by simp [maxLen]⟩
  · exact ⟨_, cap, rfl, h1, h2⟩
theorem Sl.of_own {w : World} {base n c : Nat} {e : TypeId} {A : Option Addr} {xs : List Value} (h : w.ownsRow base e 1 (.slice A n c) n xs) : Sl w w.heap.size A n xs := by
  refine ⟨by have := h.1; omega, fun j u hu => ?_⟩
  rcases h.2 with ⟨h1, h2⟩ | ⟨g, cap, cur, h1, _, hg, hnc, hcm, hcs, ht⟩
  · have := h.1
    subst h2
    have : xs = [] := List.eq_nil_of_length_eq_zero (by omega)
    subst this
    simp at hu
  · injection h1 with h1 _ _
    subst h1
    exact ⟨_, rfl, (h.lt g rfl).2, h.cells (g := g) rfl j u hu⟩

section
variable {P : Program} (w : World)
/-- append onto a row of the call's own; the source nil, empty or not. -/
theorem run_app {t ty e : TypeId} {z : Value} {bytes : Nat} (hE : Ety P t e z bytes) (base : Nat) (v : Value) (n : Nat) (xs : List Value) (hown : w.ownsRow base e 1 v n xs)
    (B : Nat) (A : Option Addr) (m c : Nat) (news : List Value) (hr : Sl w B A m news) (h1 : ∀ u ∈ news, u.oneCell' = true)
    (hbytes : (n + m) * bytes ≤ 140737488355328) (hbase : base ≤ w.heap.size) :
    ∃ A' c' w', (Builtin.append_ #[t, t] ty #[v, .slice A m c]).run P w = .ok (.slice A' (n + m) c') w' ∧ w'.ownsRow base e 1 (.slice A' (n + m) c') (n + m) (xs ++ news) ∧
      w.grownBy w' v.ownBlock ∧ ((Value.slice A' (n + m) c').ownBlock = v.ownBlock ∨ (Value.slice A' (n + m) c').ownBlock = some w.heap.size) := by
  obtain ⟨i, hi, hz, hs, hb⟩ := hE.info
  have hle : n + m ≤ 140737488355328 := Nat.le_trans (Nat.le_mul_of_pos_right _ hE.pos) hbytes
  have h63 : n + m ≤ maxLen := by simp only [maxLen]; omega
  rcases A with _ | ad
  · have hm : m = 0 := by
      rcases Nat.eq_zero_or_pos m with h0 | h0
      · exact h0
      · obtain ⟨ad, u, h, _⟩ := hr.get h0
        cases h
    subst hm
    have hn : news = [] := List.eq_nil_of_length_eq_zero hr.len
    subst hn
    obtain ⟨A, c1, rfl, _, _⟩ := own_form hown
    refine ⟨A, c1, w, ?_, by simpa using hown, ⟨rfl, rfl, rfl, Nat.le_refl _, fun _ _ _ => rfl⟩, .inl rfl⟩
    rcases hown.2 with ⟨hv, rfl⟩ | ⟨g, cap, cur, hv, _, _, hnc, _⟩
    · injection hv with hv1 _ hv2
      subst hv1 hv2
      simp [Builtin.append_, run_underlying hE.under, sizeOf, typeInfo, hi, Builtin.lenOf, Builtin.firstCells]
    · injection hv with hv1 _ hv2
      subst hv1 hv2
      simp [Builtin.append_, run_underlying hE.under, sizeOf, typeInfo, hi, Builtin.lenOf, Builtin.firstCells, hnc, storeCells]
  · have hcells : ∀ j u, news[j]? = some u → w.cell? (ad.add j) = some u := by
      intro j u hu
      obtain ⟨ad', h, _, hc⟩ := hr.cells j u hu
      injection h with h
      subst h
      exact hc
    obtain ⟨v', w', hrun, h2, h3, _, h5⟩ := run_append_own_at (P := P) w base t ty e i z 1 bytes hE.under hi hz hs hb hE.one (by omega) v n xs hown ad m c news (by rw [hr.len]; omega) hcells h1 h63 hbytes hbase
    obtain ⟨A', c', rfl, _, _⟩ := own_form h2
    exact ⟨A', c', w', hrun, h2, h3, h5⟩

theorem wp_app {o : Oper} {a : Act} {K : Act → World → Prop} {Q : Exit → Act → World → Prop} (s x : Operand) (t : TypeId)
    (ho : o.op = .call { callee := .builtin .append, args := #[s, x], argTypes := #[t, t] })
    {e : TypeId} {z : Value} {bytes : Nat} (hE : Ety P t e z bytes) (base : Nat) (v : Value) (n : Nat) (xs : List Value) (hs : a.eval s = v) (hown : w.ownsRow base e 1 v n xs)
    (B : Nat) (A : Option Addr) (m c : Nat) (news : List Value) (hx : a.eval x = .slice A m c) (hr : Sl w B A m news) (h1 : ∀ u ∈ news, u.oneCell' = true)
    (hbytes : (n + m) * bytes ≤ 140737488355328) (hbase : base ≤ w.heap.size)
    (h : ∀ A' c' w', w'.ownsRow base e 1 (.slice A' (n + m) c') (n + m) (xs ++ news) → w.grownBy w' v.ownBlock →
      ((Value.slice A' (n + m) c').ownBlock = v.ownBlock ∨ (Value.slice A' (n + m) c').ownBlock = some w.heap.size) → K (a.put o.dst (.slice A' (n + m) c')) w') : o.wp P a w K Q := by
  obtain ⟨A', c', w', hrun, h2, h3, h4⟩ := run_app (P := P) w (ty := o.type) hE base v n xs hown B A m c news hr h1 hbytes hbase
  unfold Oper.wp execOp
  simp only [ho, resolve, invoke, builtin, Sem.run_bind, Sem.run_pure, Result.andThen_ok, List.map_toArray, List.map_cons, List.map_nil, hs, hx, hrun]
  exact h A' c' w' h2 h3 h4

theorem wpList_app {ops : Array Oper} {rest : List Oper} {o : Oper} {a : Act} {Q : Exit → Act → World → Prop} (hgd : o.guard = none) (s x : Operand) (t : TypeId)
    (ho : o.op = .call { callee := .builtin .append, args := #[s, x], argTypes := #[t, t] })
    {e : TypeId} {z : Value} {bytes : Nat} (hE : Ety P t e z bytes) (base : Nat) (v : Value) (n : Nat) (xs : List Value) (hs : a.eval s = v) (hown : w.ownsRow base e 1 v n xs)
    (B : Nat) (A : Option Addr) (m c : Nat) (news : List Value) (hx : a.eval x = .slice A m c) (hr : Sl w B A m news) (h1 : ∀ u ∈ news, u.oneCell' = true)
    (hbytes : (n + m) * bytes ≤ 140737488355328) (hbase : base ≤ w.heap.size)
    (h : ∀ A' c' w', w'.ownsRow base e 1 (.slice A' (n + m) c') (n + m) (xs ++ news) → w.grownBy w' v.ownBlock →
      ((Value.slice A' (n + m) c').ownBlock = v.ownBlock ∨ (Value.slice A' (n + m) c').ownBlock = some w.heap.size) → wpList P ops Q rest (a.put o.dst (.slice A' (n + m) c')) w') : wpList P ops Q (o :: rest) a w :=
  wpList_plain hgd fun _ hK => wp_app w s x t ho hE base v n xs hs hown B A m c news hx hr h1 hbytes hbase fun A' c' w' h2 h3 h4 => hK _ _ (h A' c' w' h2 h3 h4)

/-- The text of bytes. -/
def txt (l : List UInt8) : ByteArray := ⟨l.toArray⟩
theorem txt_toList (l : List UInt8) : (txt l).data.toList = l := rfl
theorem txt_inj {a b : List UInt8} (h : txt a = txt b) : a = b := by
  have := congrArg (fun s : ByteArray => s.data.toList) h; exact this
theorem txt_ne {a b : List UInt8} (h : a ≠ b) : ((txt a).toList == (txt b).toList) = false := by
  simp [txt, h]
theorem txt_eq (a : List UInt8) : ((txt a).toList == (txt a).toList) = true := by simp
theorem run_conv_txt {src dst e : TypeId} (hs : P.underlying src = some (.slice e)) (he : P.underlying e = some (.int .u8)) (hd : P.underlying dst = some .string)
    {B : Nat} {A : Option Addr} {n : Nat} (c : Nat) {l : List UInt8} (h : By w B A n l) : (convert src dst (.slice A n c)).run P w = .ok (.string (txt l)) w := by
  by_cases hn : n = 0
  · subst hn
    have : l = [] := List.eq_nil_of_length_eq_zero h.length
    subst this
    rcases A with _ | ad
    · exact run_convert_bytes_nil w src e hs he 0 c dst hd
    · rw [run_convert_bytes_string w src dst e _ 0 c hs he hd]
      exact run_bytesToString w ad 0 c [] (by simp [loadCells, loadCellsFrom])
  · obtain ⟨hl, ad, rfl, h0⟩ := By.get h (show 0 < n by omega)
    obtain ⟨b, off, spot⟩ := ad
    have hsp : spot = none := World.cell?_spot (by simpa [Addr.add] using h0)
    subst hsp
    have hlen := h.length
    have := run_convert_bytes_arg (P := P) w src e hs he b off n c (l.map fun x => (x.toNat : Int)) (by simp [hlen]) (fun i hi => by
      obtain ⟨hl', ad', e', hc⟩ := By.get h hi
      injection e' with e'
      subst e'
      have : (Addr.mk b off none).add i = ⟨b, off + i, none⟩ := by unfold Addr.add; split <;> simp_all
      rw [this] at hc
      rw [hc]
      simp [List.getD, hl']) dst hd
    rw [this]
    have : strOfNums (l.map fun x => (x.toNat : Int)) = txt l := by
      unfold strOfNums txt
      congr 1
      simp [List.map_map, Function.comp_def]
    rw [this]
end

/-- A slice of bytes that came in, as the shells of the proofs have it. -/
theorem by_of_row {w : World} {x : Addr} {len : Nat} {zs : List Int} (hl : len ≤ zs.length) (hc : ∀ i, i < zs.length → w.cell? (x.add i) = some (.int .u8 (zs.getD i 0)))
    (hwf : ∀ n ∈ zs, (Lit.int .u8 n).wf = true) : ∃ l, By w w.heap.size (some x) len l := by
  have hb : ∀ n ∈ zs, 0 ≤ n ∧ n < 256 := by
    intro n hn
    have := hwf n hn
    simp [Lit.wf, IntKind.min, IntKind.max, IntKind.signed, IntKind.bits] at this
    omega
  refine ⟨(zs.take len).map fun n => UInt8.ofNat n.toNat, by simp [u8s]; omega, fun j u hu => ?_⟩
  rw [u8s_get, List.getElem?_map, List.getElem?_take] at hu
  split at hu
  · rename_i hj
    have hj' : j < zs.length := by omega
    rw [List.getElem?_eq_getElem hj'] at hu
    simp only [Option.map_some, Option.some.injEq] at hu
    have h1 := hc j hj'
    have h2 := hb zs[j] (List.getElem_mem hj')
    refine ⟨x, rfl, ?_, ?_⟩
    · have : w.cell? (x.add j) ≠ none := by rw [h1]; simp
      rcases Nat.lt_or_ge x.block w.heap.size with h | h
      · exact h
      · exfalso
        apply this
        unfold World.cell?
        rw [addr_block, Array.getElem?_eq_none h]
    · rw [h1, ← hu, List.getD, List.getElem?_eq_getElem hj', Option.getD_some]
      congr 2
      rw [UInt8.toNat_ofNat']
      omega
  · cases hu
end Go.Proofs.Ytfaingklglelnaa

/- Blocks that are known whole, and what a call keeps of all but some. -/
namespace Go.Proofs.Ytfaingklglelnaa
open Go.RowKit

/-- Block g is just these cells, none of them frozen. -/
def Blk (w : World) (g : Nat) (t : TypeId) (cs : Array Value) : Prop := w.heap[g]? = some (.cells cs t (0, 0))
/-- All blocks but these are as they were. -/
structure Kp (gs : List Nat) (w w' : World) : Prop where
  os : w'.os = w.os
  tape : w'.tape = w.tape
  output : w'.output = w.output
  size : w.heap.size ≤ w'.heap.size
  block : ∀ k, k < w.heap.size → k ∉ gs → w'.heap[k]? = w.heap[k]?

section
variable {w w' w2 : World} {g : Nat} {t : TypeId} {cs : Array Value} {gs : List Nat}
theorem Blk.lt (h : Blk w g t cs) : g < w.heap.size := by
  rcases Nat.lt_or_ge g w.heap.size with hl | hg
  · exact hl
  · unfold Blk at h; rw [Array.getElem?_eq_none hg] at h; cases h
theorem Blk.cell (h : Blk w g t cs) (i : Nat) : w.cell? ⟨g, i, none⟩ = cs[i]? := cell_of_row w g i cs t (0, 0) h
theorem Blk.frozen (h : Blk w g t cs) (i : Nat) : w.frozen? ⟨g, i, none⟩ = false := by
  unfold Blk at h; simp [World.frozen?, h]
theorem Blk.new (w : World) (t : TypeId) (cs : Array Value) : Blk (w.alloc (.cells cs t)) w.heap.size t cs := heap_alloc_new w _
theorem Blk.drew (h : Blk w g t cs) : Blk w.drew g t cs := h
theorem Blk.drewN (h : Blk w g t cs) (n : Nat) : Blk (w.drewN n) g t cs := h
theorem Blk.alloc (h : Blk w g t cs) (o : Obj) : Blk (w.alloc o) g t cs := (Below.heap_alloc w o g h.lt).trans h
theorem Blk.set (h : Blk w g t cs) (i : Nat) (u : Value) : Blk (w.setCell ⟨g, i, none⟩ u) g t (cs.setIfInBounds i u) := by
  unfold Blk at h ⊢; simp [World.setCell, Array.getElem?_modify, h]
theorem Blk.far (h : Blk w g t cs) {p : Addr} (hp : g ≠ p.block) (u : Value) : Blk (w.setCell p u) g t cs := (Below.heap_setCell w p u g hp).trans h
theorem Blk.kp (h : Blk w g t cs) (hk : Kp gs w w') (hn : g ∉ gs) : Blk w' g t cs := (hk.block g h.lt hn).trans h
theorem Blk.below (h : Blk w g t cs) (hb : Below w.heap.size w w') : Blk w' g t cs := (hb.block g h.lt).trans h
theorem Kp.refl (gs : List Nat) (w : World) : Kp gs w w := ⟨rfl, rfl, rfl, Nat.le_refl _, fun _ _ _ => rfl⟩
theorem Kp.trans (h : Kp gs w w') (k : Kp gs w' w2) : Kp gs w w2 :=
  ⟨k.os.trans h.os, k.tape.trans h.tape, k.output.trans h.output, Nat.le_trans h.size k.size, fun i hi hn => (k.block i (Nat.lt_of_lt_of_le hi h.size) hn).trans (h.block i hi hn)⟩
theorem Kp.drew (h : Kp gs w w') : Kp gs w w'.drew := ⟨h.os, h.tape, h.output, h.size, h.block⟩
theorem Kp.drewN (h : Kp gs w w') (n : Nat) : Kp gs w (w'.drewN n) := ⟨h.os, h.tape, h.output, h.size, h.block⟩
theorem Kp.alloc (h : Kp gs w w') (o : Obj) : Kp gs w (w'.alloc o) :=
  ⟨h.os, h.tape, h.output, Nat.le_trans h.size (by simp), fun i hi hn => (Below.heap_alloc w' o i (Nat.lt_of_lt_of_le hi h.size)).trans (h.block i hi hn)⟩
theorem Kp.set (h : Kp gs w w') {p : Addr} (hp : p.block ∈ gs ∨ w.heap.size ≤ p.block) (u : Value) : Kp gs w (w'.setCell p u) :=
  ⟨h.os, h.tape, h.output, by simpa [World.setCell] using h.size, fun i hi hn => (Below.heap_setCell w' p u i (by
    rintro rfl
    rcases hp with hp | hp
    · exact hn hp
    · omega)).trans (h.block i hi hn)⟩
theorem Kp.of_below (h : Below w.heap.size w w') : Kp gs w w' := ⟨h.os, h.tape, h.output, h.size, fun i hi _ => h.block i hi⟩
theorem Kp.more {gs' : List Nat} (h : Kp gs w w') (hs : ∀ g ∈ gs, g ∈ gs') : Kp gs' w w' := ⟨h.os, h.tape, h.output, h.size, fun i hi hn => h.block i hi (fun hg => hn (hs i hg))⟩
theorem Kp.below {B : Nat} (h : Kp gs w w') (hB : B ≤ w.heap.size) (hg : ∀ g ∈ gs, B ≤ g) : Below B w w' :=
  ⟨h.os, h.tape, h.output, h.size, fun k hk => h.block k (Nat.lt_of_lt_of_le hk hB) (fun hm => by have := hg k hm; omega)⟩
theorem Below.kp2 {B : Nat} (h : Below B w w') (k : Kp gs w' w2) (hB : B ≤ w'.heap.size) (hg : ∀ g ∈ gs, B ≤ g) : Below B w w2 := h.trans (k.below hB hg)
end

/-- So many bools as cells. -/
def bools (l : List Bool) : Array Value := (l.map Value.bool).toArray
theorem bools_get (l : List Bool) (i : Nat) : (bools l)[i]? = l[i]?.map Value.bool := by simp [bools]
theorem bools_set (l : List Bool) (i : Nat) (b : Bool) : (bools l).setIfInBounds i (.bool b) = bools (l.set i b) := by simp [bools, List.map_set]
theorem bools_rep (n : Nat) : (List.replicate n (Value.bool false)).toArray = bools (List.replicate n false) := by simp [bools]
end Go.Proofs.Ytfaingklglelnaa

/- Rows of the call's own: made whole, written in a place, cut, grown by zeros. -/
namespace Go.Proofs.Ytfaingklglelnaa
open Go.RowKit

/-- A row that was built whole. -/
theorem own_built {w : World} {base n : Nat} {e : TypeId} (cur : Array Value) (hb : base ≤ w.heap.size) (hn : cur.size = n) (hm : n ≤ 9223372036854775807) :
    (w.alloc (.cells cur e)).ownsRow base e 1 (.slice (some ⟨w.heap.size, 0, none⟩) n n) n cur.toList := by
  refine ⟨by simp [hn], .inr ⟨w.heap.size, n, cur, rfl, hb, heap_alloc_new w _, Nat.le_refl _, by simp only [maxLen]; omega, by omega, ?_⟩⟩
  rw [List.take_of_length_le (by simp; omega)]
theorem own_drewN {w : World} {base n : Nat} {e : TypeId} {v : Value} {xs : List Value} (h : w.ownsRow base e 1 v n xs) (k : Nat) : (w.drewN k).ownsRow base e 1 v n xs := h
theorem own_base {w : World} {base base' n : Nat} {e : TypeId} {v : Value} {xs : List Value} (h : w.ownsRow base e 1 v n xs) (hb : base' ≤ base) : w.ownsRow base' e 1 v n xs := by
  refine ⟨h.1, ?_⟩
  rcases h.2 with h0 | ⟨g, cap, cur, h1, h2, h3⟩
  · exact .inl h0
  · exact .inr ⟨g, cap, cur, h1, by omega, h3⟩
theorem own_below {w w' : World} {B base n : Nat} {e : TypeId} {v : Value} {xs : List Value} (h : w.ownsRow base e 1 v n xs) (hb : Below B w w') (hv : ∀ g, v.ownBlock = some g → g < B) : w'.ownsRow base e 1 v n xs := by
  refine ⟨h.1, ?_⟩
  rcases h.2 with h0 | ⟨g, cap, cur, rfl, h2, h3, h4⟩
  · exact .inl h0
  · exact .inr ⟨g, cap, cur, rfl, h2, (hb.block g (hv g rfl)).trans h3, h4⟩
theorem own_lt {w : World} {base n : Nat} {e : TypeId} {v : Value} {xs : List Value} (h : w.ownsRow base e 1 v n xs) : ∀ g, v.ownBlock = some g → g < w.heap.size :=
  fun g hg => (h.lt g hg).2
/-- What an own row keeps while all below a later block number stays. -/
theorem own_keep {w w' : World} {base n : Nat} {e : TypeId} {v : Value} {xs : List Value} (h : w.ownsRow base e 1 v n xs) (hb : Below w.heap.size w w') : w'.ownsRow base e 1 v n xs :=
  own_below h hb (own_lt h)
/-- Its first k, with the room as it was. -/
theorem own_head {w : World} {base n c k : Nat} {e : TypeId} {A : Option Addr} {xs : List Value} (h : w.ownsRow base e 1 (.slice A n c) n xs) (hk : k ≤ n) :
    w.ownsRow base e 1 (.slice A k c) k (xs.take k) := by
  have h1 := h.1
  rcases h.2 with ⟨h0, rfl⟩ | ⟨g, cap, cur, h2, h3, h4, h5, h6, h7, h8⟩
  · have : k = 0 := by omega
    subst this
    exact ⟨by simp, .inl ⟨h0, rfl⟩⟩
  · injection h2 with e1 e2 e3
    subst e1 e3
    refine ⟨by rw [List.length_take]; omega, .inr ⟨g, c, cur, rfl, h3, h4, by omega, h6, h7, ?_⟩⟩
    rw [← h8, List.take_take, Nat.mul_one, Nat.mul_one, Nat.min_eq_left (by omega)]
/-- A place of an own row: its cell may be written, and the row then reads so. -/
theorem own_at {w : World} {base n c k : Nat} {e : TypeId} {A : Option Addr} {xs : List Value} (h : w.ownsRow base e 1 (.slice A n c) n xs) (hk : k < n) :
    ∃ ad u, A = some ad ∧ base ≤ ad.block ∧ ad.block < w.heap.size ∧ xs[k]? = some u ∧ w.cell? (ad.add k) = some u ∧ w.frozen? (ad.add k) = false ∧
      ∀ v, (w.setCell (ad.add k) v).ownsRow base e 1 (.slice A n c) n (xs.set k v) := by
  have h1 := h.1
  rcases h.2 with ⟨h0, rfl⟩ | ⟨g, cap, cur, h2, h3, h4, h5, h6, h7, h8⟩
  · omega
  · injection h2 with e1 e2 e3
    subst e1 e3
    have hadd : (Addr.mk g 0 none).add k = ⟨g, k, none⟩ := by unfold Addr.add; split <;> simp_all
    have hx : xs[k]? = some (xs[k]'(by omega)) := List.getElem?_eq_getElem (by omega)
    refine ⟨_, _, rfl, h3, own_lt h g rfl, hx, h.cells (g := g) rfl k _ hx, ?_, fun v => ⟨by rw [List.length_set]; omega, .inr ⟨g, c, cur.setIfInBounds k v, rfl, h3, ?_, h5, h6, by simp [h7], ?_⟩⟩⟩
    · rw [hadd]
      simp [World.frozen?, h4]
    · rw [hadd]
      simp [World.setCell, Array.getElem?_modify, h4]
    · rw [Array.toList_setIfInBounds, List.take_set, h8]
theorem bel_set {B : Nat} {a w : World} (h : Below B a w) {p : Addr} (hp : B ≤ p.block) (k : Nat) (u : Value) : Below B a (w.setCell (p.add k) u) :=
  h.setCell (by rw [addr_block]; exact hp) u

section
variable {P : Program} (w : World)
theorem zeroCells_one {z : Value} (h : z.cells.size = 1) (hz : z.cells = #[z]) (m : Nat) : Builtin.zeroCells z.cells m = (List.replicate m z).toArray := by
  apply Array.ext
  · simp [size_zeroCells, h]
  · intro i h1 h2
    simp [Builtin.zeroCells, hz]
    simp only [Nat.mod_one]
    rfl
/-- append of so many zeros onto a row of the call's own. -/
theorem run_app_zeros {t tn ty e : TypeId} {z : Value} {bytes : Nat} {kn kq : IntKind} (hE : Ety P t e z bytes) (hzc : z.cells = #[z]) (hz1 : z.oneCell' = true) (htn : P.underlying tn = some (.int kn))
    (base : Nat) (v : Value) (n : Nat) (xs : List Value) (hown : w.ownsRow base e 1 v n xs) (m : Nat)
    (hbytes : (n + m) * bytes ≤ 140737488355328) (hbase : base ≤ w.heap.size) :
    ∃ A' c' w', (Builtin.append_ #[t, tn] ty #[v, .int kq (m : Int)]).run P w = .ok (.slice A' (n + m) c') w' ∧ w'.ownsRow base e 1 (.slice A' (n + m) c') (n + m) (xs ++ List.replicate m z) ∧
      w.grownBy w' v.ownBlock ∧ ((Value.slice A' (n + m) c').ownBlock = v.ownBlock ∨ (Value.slice A' (n + m) c').ownBlock = some w.heap.size) := by
  obtain ⟨i, hi, hz, hs, hb⟩ := hE.info
  have hp := hE.pos
  have hle : n + m ≤ 140737488355328 := Nat.le_trans (Nat.le_mul_of_pos_right _ hE.pos) hbytes
  have h63 : n + m ≤ maxLen := by simp only [maxLen]; omega
  have hmb : m * bytes ≤ 140737488355328 := Nat.le_trans (Nat.mul_le_mul_right _ (by omega)) hbytes
  have hw : IntKind.i64.wrap (m : Int) = m := by rw [IntKind.wrap_i64]; omega
  have hneg : ¬ ((m : Int) < 0) := by omega
  have h48i : ¬ (281474976710656 < (m : Int) * (i.bytes : Int)) := by
    rw [hb, ← Int.natCast_mul]; omega
  have h1 := hown.1
  rcases hown.2 with ⟨rfl, rfl⟩ | ⟨g, cap, cur, rfl, hbg, hg, hnc, hcm, hcs, htake⟩
  · have hx : xs = [] := List.eq_nil_of_length_eq_zero (by omega)
    subst hx
    by_cases hm : m = 0
    · subst hm
      refine ⟨none, 0, w, ?_, World.ownsRow_nil w base e 1, ⟨rfl, rfl, rfl, Nat.le_refl _, fun _ _ _ => rfl⟩, .inl rfl⟩
      have hw0 : IntKind.i64.wrap 0 = 0 := rfl
      simp [Builtin.append_, run_underlying hE.under, run_underlying htn, sizeOf, typeInfo, hi, asInt, asIntOf, hw0]
    · have hr := Lib.run_append_nil_zeros (P := P) w t tn ty e i z kq kn hE.under htn hi hz m (by omega) (by omega) (by omega) (by rw [hb]; omega)
      have hge := grownCap_ge w m 0 e
      have hcm := grownCap_le_maxLen w m 0 e (by omega)
      simp only [Nat.zero_add, List.nil_append]
      refine ⟨_, _, _, hr, ⟨by simp, .inr ⟨w.heap.size, _, _, rfl, hbase, heap_alloc_new w.drew _, hge, hcm, ?_, ?_⟩⟩, ⟨rfl, rfl, rfl, by simp, fun k hk _ => heap_alloc_old w.drew _ hk⟩, .inr rfl⟩
      · simp [size_zeroCells, hE.one]; omega
      · rw [zeroCells_one hE.one hzc, zeroCells_one hE.one hzc]
        simp [hge]
  · by_cases hroom : n + m ≤ cap
    · have hst := run_storeCells_at P g n e (List.replicate m z) 0 cur w hg (by simp; omega) (by intro u hu; rw [(List.mem_replicate.1 hu).2]; exact hz1)
      simp only [Nat.add_zero] at hst
      have hz0 : Builtin.zeroCells z.cells m = (List.replicate m z).toArray := zeroCells_one hE.one hzc m
      refine ⟨some ⟨g, 0, none⟩, cap, w.setRow g (cur.toList.take n ++ List.replicate m z ++ cur.toList.drop (n + m)).toArray, ?_, ⟨by simp [h1], .inr ⟨g, cap, _, rfl, hbg, setRow_heap w g cur _ e _ hg, hroom, hcm, ?_, ?_⟩⟩, ⟨rfl, rfl, rfl, by simp, fun k hk hne => setRow_other w g k _ (fun e => hne (by simp [Value.ownBlock, e]))⟩, .inl rfl⟩
      · by_cases hm : m = 0
        · subst hm
          have hsame : w.setRow g (cur.toList.take n ++ List.replicate 0 z ++ cur.toList.drop (n + 0)).toArray = w := by
            simp at hst
            simpa [storeCells] using hst.symm
          rw [hsame]
          have hw0 : IntKind.i64.wrap 0 = 0 := rfl
          simp [Builtin.append_, run_underlying hE.under, run_underlying htn, sizeOf, typeInfo, hi, asInt, asIntOf, hw0, hnc, storeCells]
        · simp at hst
          have hb' : ¬ (281474976710656 < (m : Int) * (bytes : Int)) := by rw [← hb]; exact h48i
          simp [Builtin.append_, run_underlying hE.under, run_underlying htn, sizeOf, typeInfo, zeroValue, hi, hz, hs, hb, hb', asInt, asIntOf, hw, hneg, hroom, hm, Addr.add_lit, hz0, hst]
      · simp; omega
      · have hxl : xs.length = n := by omega
        have ht : cur.toList.take n = xs := by simpa using htake
        rw [ht, List.append_assoc, ← List.append_assoc]
        rw [List.take_left' (by simp [hxl])]
    · have hold : (Builtin.firstCells i.size n (.slice (some ⟨g, 0, none⟩) n cap)).run P w.drew = .ok xs.toArray w.drew := by
        have := run_firstCells_some (P := P) w.drew i.size n ⟨g, 0, none⟩ n cap xs (by rw [hs]; exact h1) (hown.cells (g := g) rfl)
        simpa using this
      have hfit : Builtin.nextslicecap (n + m) cap * i.bytes ≤ 281474976710656 := by
        have : Builtin.nextslicecap (n + m) cap ≤ 2 * (n + m) := by
          have := nextslicecap_le (need := n + m) (old := cap) (by omega)
          omega
        rw [hb]
        calc Builtin.nextslicecap (n + m) cap * bytes ≤ 2 * (n + m) * bytes := Nat.mul_le_mul_right _ this
          _ = 2 * ((n + m) * bytes) := Nat.mul_assoc _ _ _
          _ ≤ 281474976710656 := by omega
      have hr := Lib.run_append_grow_zeros (P := P) w t tn ty e i z kq kn hE.under htn hi hz (some ⟨g, 0, none⟩) n cap xs hold m (by omega) (by omega) (by omega) (by omega) (by rw [hb]; omega) hfit
      have hge := grownCap_ge w (n + m) cap e
      have hcm' := grownCap_le_maxLen w (n + m) cap e h63
      refine ⟨_, _, _, hr, ⟨by simp [h1], .inr ⟨w.heap.size, _, _, rfl, hbase, heap_alloc_new w.drew _, hge, hcm', ?_, ?_⟩⟩, ⟨rfl, rfl, rfl, by simp, fun k hk _ => heap_alloc_old w.drew _ hk⟩, .inr rfl⟩
      · simp [size_zeroCells, hE.one]; omega
      · rw [zeroCells_one hE.one hzc, zeroCells_one hE.one hzc]
        simp
        rw [← List.replicate_append_replicate, ← List.append_assoc, List.take_left' (by simp; omega)]
end

/-- So many of one value. -/
def zs (z : Value) (n : Nat) : Array Value := (List.replicate n z).toArray
theorem zs_size (z : Value) (n : Nat) : (zs z n).size = n := by simp [zs]
theorem madeCells_zs {z : Value} (h : z.cells.size = 1) (hz : z.cells = #[z]) (n : Nat) : madeCells z.cells n = zs z n := by
  apply Array.ext
  · simp [madeCells, zs]
  · intro i h1 h2
    simp [madeCells, hz, zs]
    simp only [Nat.mod_one]
    rfl
/-- make, a length and a room. -/
theorem run_mk {P : Program} {t e : TypeId} {z : Value} {bytes : Nat} (hE : Ety P t e z bytes) (hzc : z.cells = #[z]) (kl kc : IntKind) (n c : Nat) (hnc : n ≤ c) (hb : c * bytes ≤ 140737488355328) (w : World) :
    (Instr.makeSlice t (.int kl (n : Int)) (.int kc (c : Int))).run P w = .ok (.slice (some ⟨w.heap.size, 0, none⟩) n c) (w.alloc (.cells (zs z c) e)) := by
  obtain ⟨i, hi, hz, hs, hby⟩ := hE.info
  have hle : c ≤ 140737488355328 := Nat.le_trans (Nat.le_mul_of_pos_right _ hE.pos) hb
  have hbI : (i.bytes : Int) * (c : Int) ≤ 281474976710656 := by
    rw [hby, ← Int.natCast_mul, Nat.mul_comm]; omega
  have hr := run_make (P := P) w t e i z hE.under hi hz kl kc n c (by omega) (by omega) hbI (by omega)
  simp only [Int.toNat_natCast, hs, Nat.mul_one] at hr
  rw [hr, madeCells_zs hE.one hzc]
theorem own_mk {w : World} {base n c : Nat} {e : TypeId} {z : Value} (hb : base ≤ w.heap.size) (hnc : n ≤ c) (hm : c ≤ 9223372036854775807) :
    (w.alloc (.cells (zs z c) e)).ownsRow base e 1 (.slice (some ⟨w.heap.size, 0, none⟩) n c) n (List.replicate n z) := by
  refine ⟨by simp, .inr ⟨w.heap.size, c, _, rfl, hb, heap_alloc_new w _, hnc, by simp only [maxLen]; omega, by rw [zs_size]; omega, ?_⟩⟩
  simp [zs, hnc]

section
variable {P : Program} (w : World)
/-- append onto a slice that has no room for it: new memory. -/
theorem run_app_new {t ty e : TypeId} {z : Value} {bytes : Nat} (hE : Ety P t e z bytes) {B0 : Nat} (b : Addr) (n c : Nat) (xs : List Value) (hx : Sl w B0 (some b) n xs)
    {B : Nat} (A : Option Addr) (m c' : Nat) (news : List Value) (hr : Sl w B A m news) (hnc : n ≤ c) (hg : c < n + m) (hbytes : (n + m) * bytes ≤ 140737488355328) :
    ∃ A' c'' w', (Builtin.append_ #[t, t] ty #[.slice (some b) n c, .slice A m c']).run P w = .ok (.slice A' (n + m) c'') w' ∧ w'.ownsRow w.heap.size e 1 (.slice A' (n + m) c'') (n + m) (xs ++ news) ∧ Below w.heap.size w w' := by
  obtain ⟨i, hi, hz, hs, hb⟩ := hE.info
  have hle : n + m ≤ 140737488355328 := Nat.le_trans (Nat.le_mul_of_pos_right _ hE.pos) hbytes
  have h63 : n + m ≤ maxLen := by simp only [maxLen]; omega
  obtain ⟨ad, _, rfl, _⟩ := hr.get (show 0 < m by omega)
  have hnews : ∀ j u, news[j]? = some u → w.cell? (ad.add j) = some u := by
    intro j u hu
    obtain ⟨ad', h, _, hc⟩ := hr.cells j u hu
    injection h with h
    subst h
    exact hc
  have holds : ∀ j u, xs[j]? = some u → w.cell? (b.add j) = some u := by
    intro j u hu
    obtain ⟨ad', h, _, hc⟩ := hx.cells j u hu
    injection h with h
    subst h
    exact hc
  have h := run_append_grow (P := P) w t ty e i z hE.under hi hz b n c xs (by rw [hs, hx.len]; omega) holds ad m c' news (by rw [hs, hr.len]; omega) hnews hg (by omega) (by rw [hb]; exact growslice_fits (by omega) hbytes)
  have hge := grownCap_ge w (n + m) c e
  have hcm := grownCap_le_maxLen w (n + m) c e h63
  refine ⟨_, _, _, h, ⟨by rw [List.length_append, hx.len, hr.len]; omega, .inr ⟨w.heap.size, _, _, rfl, Nat.le_refl _, heap_alloc_new w.drew _, hge, hcm, ?_, ?_⟩⟩, ⟨rfl, rfl, rfl, by simp, fun k hk => heap_alloc_old w.drew _ hk⟩⟩
  · simp [size_zeroCells, hE.one, hx.len, hr.len]; omega
  · simp only [Array.toList_append, List.append_assoc, Nat.mul_one]
    rw [← List.append_assoc, List.take_left' (by rw [List.length_append, hx.len, hr.len])]
theorem wpList_app_new {ops : Array Oper} {rest : List Oper} {o : Oper} {a : Act} {Q : Exit → Act → World → Prop} (hgd : o.guard = none) (s x : Operand) (t : TypeId)
    (ho : o.op = .call { callee := .builtin .append, args := #[s, x], argTypes := #[t, t] })
    {e : TypeId} {z : Value} {bytes : Nat} (hE : Ety P t e z bytes) (B0 : Nat) (b : Addr) (n c : Nat) (xs : List Value) (hs : a.eval s = .slice (some b) n c) (hx : Sl w B0 (some b) n xs)
    (B : Nat) (A : Option Addr) (m c' : Nat) (news : List Value) (hxe : a.eval x = .slice A m c') (hr : Sl w B A m news) (hnc : n ≤ c) (hg : c < n + m) (hbytes : (n + m) * bytes ≤ 140737488355328)
    (h : ∀ A' c'' w', w'.ownsRow w.heap.size e 1 (.slice A' (n + m) c'') (n + m) (xs ++ news) → Below w.heap.size w w' → wpList P ops Q rest (a.put o.dst (.slice A' (n + m) c'')) w') : wpList P ops Q (o :: rest) a w := by
  refine wpList_plain hgd fun K hK => ?_
  obtain ⟨A', c'', w', hrun, h2, h3⟩ := run_app_new (P := P) w (ty := o.type) hE b n c xs hx A m c' news hr hnc hg hbytes
  unfold Oper.wp execOp
  simp only [ho, resolve, invoke, builtin, Sem.run_bind, Sem.run_pure, Result.andThen_ok, List.map_toArray, List.map_cons, List.map_nil, hs, hxe, hrun]
  exact hK _ _ (h A' c'' w' h2 h3)
end
end Go.Proofs.Ytfaingklglelnaa

/- Rows of elements of several cells each: one list of values made of a list of things. No program in sight but the model's values. -/
namespace Go.Proofs.Ytfaingklglelnaa
open Go.RowKit

section
variable {α β : Type} {f : α → List β} {k : Nat}
theorem flat_len (hk : ∀ x, (f x).length = k) (xs : List α) : (xs.flatMap f).length = xs.length * k := by
  induction xs with
  | nil => simp
  | cons x xs ih => simp only [List.flatMap_cons, List.length_append, ih, hk, List.length_cons, Nat.succ_mul]; omega
theorem flat_get (hk : ∀ x, (f x).length = k) (xs : List α) (i j : Nat) (hj : j < k) : (xs.flatMap f)[i * k + j]? = xs[i]?.bind fun x => (f x)[j]? := by
  induction xs generalizing i with
  | nil => simp
  | cons x xs ih =>
    rw [List.flatMap_cons]
    cases i with
    | zero => rw [List.getElem?_append_left (by rw [hk]; omega)]; simp
    | succ i =>
      rw [List.getElem?_append_right (by rw [hk, Nat.succ_mul]; omega), hk, show (i + 1) * k + j - k = i * k + j by rw [Nat.succ_mul]; omega, ih]
      simp
theorem flat_set (hk : ∀ x, (f x).length = k) (xs : List α) (i j : Nat) (hj : j < k) (v : β) (x' : α) (hx : ∀ x, xs[i]? = some x → f x' = (f x).set j v) : (xs.flatMap f).set (i * k + j) v = (xs.set i x').flatMap f := by
  induction xs generalizing i with
  | nil => simp
  | cons x xs ih =>
    cases i with
    | zero =>
      have := hx x rfl
      simp only [List.flatMap_cons, List.set_cons_zero, Nat.zero_mul, Nat.zero_add, this]
      rw [List.set_append_left _ _ (by rw [hk]; exact hj)]
    | succ i =>
      simp only [List.flatMap_cons, List.set_cons_succ]
      rw [List.set_append_right _ _ (by rw [hk, Nat.succ_mul]; omega), hk, show (i + 1) * k + j - k = i * k + j by rw [Nat.succ_mul]; omega, ih i (fun y hy => hx y (by simpa using hy))]
end
/-- The cells of a row of things. -/
def fl {α : Type} (f : α → List Value) (xs : List α) : Array Value := (xs.flatMap f).toArray
theorem fl_get {α : Type} {f : α → List Value} {k : Nat} (hk : ∀ x, (f x).length = k) (xs : List α) (i j : Nat) (hj : j < k) : (fl f xs)[i * k + j]? = xs[i]?.bind fun x => (f x)[j]? := by
  have := flat_get hk xs i j hj
  simpa [fl] using this
theorem fl_set {α : Type} {f : α → List Value} {k : Nat} (hk : ∀ x, (f x).length = k) (xs : List α) (i j : Nat) (hj : j < k) (v : Value) (x' : α) (hx : ∀ x, xs[i]? = some x → f x' = (f x).set j v) :
    (fl f xs).setIfInBounds (i * k + j) v = fl f (xs.set i x') := by
  have := flat_set hk xs i j hj v x' hx
  simp [fl, this]
theorem fl_size {α : Type} {f : α → List Value} {k : Nat} (hk : ∀ x, (f x).length = k) (xs : List α) : (fl f xs).size = xs.length * k := by
  have := flat_len hk xs
  simpa [fl] using this
theorem made_fl {α : Type} {f : α → List Value} {k : Nat} (hk : ∀ x, (f x).length = k) (hp : 0 < k) (x : α) (n : Nat) {z : Array Value} (hz : z = (f x).toArray) : madeCells z (n * k) = fl f (List.replicate n x) := by
  subst hz
  apply Array.ext
  · rw [fl_size hk]; simp [madeCells]
  · intro i h1 h2
    have e : i = i / k * k + i % k := by rw [Nat.mul_comm]; exact (Nat.div_add_mod i k).symm
    have hm : i % k < k := Nat.mod_lt _ hp
    have hi : i < n * k := by simpa [madeCells] using h1
    have hd : i / k < n := Nat.div_lt_of_lt_mul (by rwa [Nat.mul_comm])
    have h3 : (fl f (List.replicate n x))[i]? = (f x)[i % k]? := by
      have := fl_get hk (List.replicate n x) (i / k) (i % k) hm
      rw [List.getElem?_replicate, if_pos hd, ← e] at this
      simpa using this
    have h4 : (madeCells (f x).toArray (n * k))[i]? = (f x)[i % k]? := by
      have hl : i % k < (f x).length := by rw [hk]; exact hm
      simp [madeCells, hi, hk, List.getElem?_eq_getElem hl]
    rw [Array.getElem?_eq_getElem h1] at h4
    rw [Array.getElem?_eq_getElem h2] at h3
    rw [← h3] at h4
    exact Option.some.inj h4

/-- The same, where only this one thing is known to be of k cells. -/
theorem made_fl1 {α : Type} {f : α → List Value} {k : Nat} (hp : 0 < k) (x : α) (hk : (f x).length = k) (n : Nat) {z : Array Value} (hz : z = (f x).toArray) : madeCells z (n * k) = fl f (List.replicate n x) := by
  have h := made_fl (f := fun _ : Unit => f x) (fun _ => hk) hp () n hz
  rw [h]
  unfold fl
  congr 1
  induction n with
  | zero => rfl
  | succ n ih => rw [List.replicate_succ, List.replicate_succ, List.flatMap_cons, List.flatMap_cons, ih (made_fl (f := fun _ : Unit => f x) (fun _ => hk) hp () n hz)]

/-- make of so many elements, of any size. -/
theorem run_mks {P : Program} {t e : TypeId} {z : Value} {k bytes : Nat} (ht : P.underlying t = some (.slice e))
    (he : (P.info? e).map (fun i => (i.zero, i.size, i.bytes)) = some (some z, k, bytes)) (kl kc : IntKind) (n : Nat) (hb : n * bytes ≤ 140737488355328) (hn : n ≤ 140737488355328) (w : World) :
    (Instr.makeSlice t (.int kl (n : Int)) (.int kc (n : Int))).run P w = .ok (.slice (some ⟨w.heap.size, 0, none⟩) n n) (w.alloc (.cells (madeCells z.cells (n * k)) e)) := by
  obtain ⟨i, hi, hz, hs, hby⟩ := info_parts he
  have hbI : (i.bytes : Int) * (n : Int) ≤ 281474976710656 := by
    rw [hby, ← Int.natCast_mul, Nat.mul_comm]; omega
  have hr := run_make (P := P) w t e i z ht hi hz kl kc n n (by omega) (by omega) hbI (by omega)
  simp only [Int.toNat_natCast, hs] at hr
  exact hr
end Go.Proofs.Ytfaingklglelnaa

/- What a disk is, in plain lists. No program in sight. -/
namespace Go.Proofs.Ytfaingklglelnaa
open Go.RowKit

/-- A block as cells. -/
def blkC (b : List UInt8) : List Value := u8s b
/-- A write of the queue as cells. -/
def wrC (x : Nat × List UInt8) : List Value := .int .i64 (x.1 : Int) :: u8s x.2
/-- A disk: the blocks that are sure, the queue, the steps, those left; the room of the sure blocks' row, and what lies in it behind them. -/
structure Dsk where
  sure : List (List UInt8)
  queue : List (Nat × List UInt8)
  steps : Nat
  left : Int
  cap : Nat
  pad : Array Value
/-- A disk whose blocks are of 64 bytes, and whose queue lies within it. -/
structure Dsk.Ok (D : Dsk) : Prop where
  b : ∀ x ∈ D.sure, x.length = 64
  q : ∀ x ∈ D.queue, x.2.length = 64 ∧ x.1 < D.sure.length
  n : D.sure.length ≤ 4096
  l : -1 ≤ D.left ∧ D.left ≤ 9223372036854775807
  s : D.steps ≤ 1000000
  qn : D.queue.length ≤ 1000000
/-- All its blocks' cells. -/
def sureC (l : List (List UInt8)) : Array Value := fl blkC l
/-- All its writes' cells. -/
def queueC (l : List (Nat × List UInt8)) : List Value := l.flatMap wrC
theorem queueC_len {l : List (Nat × List UInt8)} (h : ∀ x ∈ l, x.2.length = 64) : (queueC l).length = l.length * 65 := by
  induction l with
  | nil => rfl
  | cons x l ih =>
    have hx := h x (by simp)
    have := ih (fun y hy => h y (by simp [hy]))
    simp only [queueC, List.flatMap_cons, List.length_append, wrC, List.length_cons, u8s_length, hx, Nat.succ_mul] at this ⊢
    omega
/-- A disk in memory: block d its struct, block s its sure blocks, v the queue's slice. -/
structure DskM (td tb ti : TypeId) (w : World) (base d s : Nat) (v : Value) (D : Dsk) : Prop where
  hd : Blk w d td #[.slice (some ⟨s, 0, none⟩) D.sure.length D.cap, v, .int .i64 (D.steps : Int), .int .i64 D.left]
  hs : Blk w s tb (sureC D.sure ++ D.pad)
  hq : w.ownsRow base ti 65 v D.queue.length (queueC D.queue)
  ne : d ≠ s
  nq : ∀ g, v.ownBlock = some g → g ≠ d ∧ g ≠ s
  db : base ≤ d
  sb : base ≤ s
  ok : D.Ok
end Go.Proofs.Ytfaingklglelnaa

/- The walks over package disk: step, New, Size, Steps, Arm. -/
namespace Go.Proofs.Ytfaingklglelnaa
open Go.RowKit

abbrev DskA (w : World) (base d s : Nat) (v : Value) (D : Dsk) : Prop := DskM 94 99 101 w base d s v D
theorem dsk_cells {w : World} {base d s : Nat} {v : Value} {D : Dsk} (h : DskA w base d s v D) :
    w.cell? ⟨d, 0, none⟩ = some (.slice (some ⟨s, 0, none⟩) D.sure.length D.cap) ∧ w.cell? ⟨d, 1, none⟩ = some v ∧ w.cell? ⟨d, 2, none⟩ = some (.int .i64 (D.steps : Int)) ∧ w.cell? ⟨d, 3, none⟩ = some (.int .i64 D.left) ∧
    w.frozen? ⟨d, 1, none⟩ = false ∧ w.frozen? ⟨d, 2, none⟩ = false ∧ w.frozen? ⟨d, 3, none⟩ = false :=
  ⟨h.hd.cell 0, h.hd.cell 1, h.hd.cell 2, h.hd.cell 3, h.hd.frozen 1, h.hd.frozen 2, h.hd.frozen 3⟩
/-- The disk behind a step. -/
def Dsk.stepped (D : Dsk) : Dsk := { D with steps := D.steps + 1, left := max (D.left - 1) (-1) }

theorem step_dead (w : World) (base d s : Nat) (v : Value) (D : Dsk) (h : DskA w base d s v D) (hl : D.left = 0) :
    Calls Try.prog 47 #[.pointer (some ⟨d, 0, none⟩)] w fun e w' => e = .returned (.int .i64 102) ∧ w = w' := by
  obtain ⟨c0, c1, c2, c3, f1, f2, f3⟩ := dsk_cells h
  rw [hl] at c3
  clear h hl
  go_enter Try.func47, Try.ntmps47
  go_wp2
  go_ret
  exact ⟨rfl, rfl⟩
theorem DskM.stepped {td tb ti : TypeId} {w : World} {base d s : Nat} {v : Value} {D : Dsk} (h : DskM td tb ti w base d s v D) (hs : D.steps < 1000000) :
    DskM td tb ti ((w.setCell ⟨d, 3, none⟩ (.int .i64 (max (D.left - 1) (-1)))).setCell ⟨d, 2, none⟩ (.int .i64 ((D.steps + 1 : Nat) : Int))) base d s v D.stepped where
  hd := (h.hd.set 3 (.int .i64 (max (D.left - 1) (-1)))).set 2 (.int .i64 ((D.steps + 1 : Nat) : Int))
  hs := (h.hs.far (p := ⟨d, 3, none⟩) h.ne.symm _).far (p := ⟨d, 2, none⟩) h.ne.symm _
  hq := by
    refine ⟨h.hq.1, ?_⟩
    rcases h.hq.2 with h0 | ⟨g, cap, cur, rfl, h2, h3, h4⟩
    · exact .inl h0
    · have hg := (h.nq g rfl).1
      refine .inr ⟨g, cap, cur, rfl, h2, ?_, h4⟩
      exact (Below.heap_setCell _ ⟨d, 2, none⟩ _ g hg).trans ((Below.heap_setCell _ ⟨d, 3, none⟩ _ g hg).trans h3)
  ne := h.ne
  nq := h.nq
  db := h.db
  sb := h.sb
  ok := { h.ok with l := by have := h.ok.l; show -1 ≤ max (D.left - 1) (-1) ∧ max (D.left - 1) (-1) ≤ 9223372036854775807; omega, s := by show D.steps + 1 ≤ 1000000; omega }
theorem step_ok (w : World) (base d s : Nat) (v : Value) (D : Dsk) (h : DskA w base d s v D) (hl : D.left ≠ 0) (hs : D.steps < 1000000) :
    Calls Try.prog 47 #[.pointer (some ⟨d, 0, none⟩)] w fun e w' => e = .returned (.int .i64 0) ∧ DskA w' base d s v D.stepped ∧ Kp [d] w w' := by
  obtain ⟨c0, c1, c2, c3, f1, f2, f3⟩ := dsk_cells h
  have H := hide (h.stepped hs)
  obtain ⟨l1, l2⟩ := h.ok.l
  clear h
  have hl' : (D.left == 0) = false := by simpa using hl
  generalize D.left = lf at *
  clear hl
  go_enter Try.func47, Try.ntmps47
  go_wp2
  all_goals
    go_ret
    refine ⟨rfl, ?_, ((Kp.refl _ _).set (.inl (by simp)) _).set (.inl (by simp)) _⟩
    have := H.out
    rw [show ((D.steps + 1 : Nat) : Int) = (D.steps : Int) + 1 by omega] at this
    first
      | (rw [show max (lf - 1) (-1) = -1 by omega] at this; exact this)
      | (rw [show max (lf - 1) (-1) = lf - 1 by omega] at this; exact this)

theorem size_any (w : World) (base d s : Nat) (v : Value) (D : Dsk) (h : DskA w base d s v D) :
    Calls Try.prog 42 #[.pointer (some ⟨d, 0, none⟩)] w fun e w' => e = .returned (.int .i64 (D.sure.length : Int)) ∧ w = w' := by
  obtain ⟨c0, c1, c2, c3, f1, f2, f3⟩ := dsk_cells h
  clear h
  go_enter Try.func42, Try.ntmps42
  go_wp2
  go_ret
  exact ⟨rfl, rfl⟩
theorem steps_any (w : World) (base d s : Nat) (v : Value) (D : Dsk) (h : DskA w base d s v D) :
    Calls Try.prog 50 #[.pointer (some ⟨d, 0, none⟩)] w fun e w' => e = .returned (.int .i64 (D.steps : Int)) ∧ w = w' := by
  obtain ⟨c0, c1, c2, c3, f1, f2, f3⟩ := dsk_cells h
  clear h
  go_enter Try.func50, Try.ntmps50
  go_wp2
  go_ret
  exact ⟨rfl, rfl⟩
/-- A block of zeros. -/
def zero64 : List UInt8 := List.replicate 64 0
theorem blkC_len' (b : List UInt8) (h : b.length = 64) : (blkC b).length = 64 := by unfold blkC; rw [u8s_length]; exact h
theorem made_blocks (n : Nat) : madeCells (blkC zero64).toArray (n * 64) = sureC (List.replicate n zero64) :=
  made_fl1 (by omega) zero64 (blkC_len' _ (by unfold zero64; rw [List.length_replicate])) n rfl
theorem mk_blocks (n : Nat) (hn : n ≤ 4096) (w : World) : (Instr.makeSlice 91 (.int .i64 (n : Int)) (.int .i64 (n : Int))).run Try.prog w = .ok (.slice (some ⟨w.heap.size, 0, none⟩) n n) (w.alloc (.cells (sureC (List.replicate n zero64)) 99)) := by
  rw [run_mks (P := Try.prog) (t := 91) (k := 64) (bytes := 64) (z := .agg (blkC zero64).toArray) Try.underlying91 (by kernel_rfl) .i64 .i64 n (by omega) (by omega) w]
  rw [show madeCells (Value.agg (blkC zero64).toArray).cells (n * 64) = sureC (List.replicate n zero64) from made_blocks n]

/-- The disk that New makes. -/
def freshD (n : Nat) : Dsk := ⟨List.replicate n zero64, [], 0, -1, n, #[]⟩
theorem new_no (n : Int) (w : World) (h : ¬ (1 ≤ n ∧ n ≤ 4096)) :
    Calls Try.prog 19 #[.int .i64 n] w fun e w' => e = .returned (.tuple #[.pointer none, .int .i64 22]) ∧ w = w' := by
  by_cases h1 : n < 1
  · go_enter Try.func19, Try.ntmps19
    go_wp2
    go_ret2
    exact ⟨rfl, rfl⟩
  · have h2 : 4096 < n := by omega
    clear h
    go_enter Try.func19, Try.ntmps19
    go_wp2
    go_ret2
    exact ⟨rfl, rfl⟩
theorem new_yes (n : Nat) (w : World) (h1 : 1 ≤ n) (h2 : n ≤ 4096) :
    Calls Try.prog 19 #[.int .i64 (n : Int)] w fun e w' => ∃ d s, e = .returned (.tuple #[.pointer (some ⟨d, 0, none⟩), .int .i64 0]) ∧ DskA w' w.heap.size d s (.slice none 0 0) (freshD n) ∧ Below w.heap.size w w' := by
  have k1 := fun w => mk_blocks n h2 w
  go_enter Try.func19, Try.ntmps19
  go_wp2
  go_ret2
  refine ⟨w.heap.size + 1, w.heap.size, rfl, ⟨?_, ?_, ?_, ?_, ?_, ?_, ?_, ?_⟩, ((Below.refl _ _).alloc (Nat.le_refl _) _).alloc (by simp) _⟩
  · have := Blk.new (w.alloc (.cells (sureC (List.replicate n zero64)) 99)) 94 #[.slice (some ⟨w.heap.size, 0, none⟩) n n, .slice none 0 0, .int .i64 0, .int .i64 (-1)]
    simpa [freshD] using this
  · have := (Blk.new w 99 (sureC (List.replicate n zero64))).alloc (.cells #[.slice (some ⟨w.heap.size, 0, none⟩) n n, .slice none 0 0, .int .i64 0, .int .i64 (-1)] 94)
    simpa [freshD] using this
  · exact ⟨rfl, .inl ⟨rfl, rfl⟩⟩
  · simp
  · intro g hg; cases hg
  · simp
  · exact Nat.le_refl _
  · refine ⟨fun x hx => ?_, fun x hx => ?_, ?_, ⟨?_, ?_⟩, ?_, ?_⟩
    · rw [(List.mem_replicate.1 hx).2]; unfold zero64; rw [List.length_replicate]
    · cases hx
    · show (List.replicate n zero64).length ≤ 4096; rw [List.length_replicate]; exact h2
    · exact Int.le_refl _
    · show (-1 : Int) ≤ 9223372036854775807; omega
    · exact Nat.zero_le _
    · exact Nat.zero_le _
end Go.Proofs.Ytfaingklglelnaa

/- The walks over package disk: Arm, Read's refusals, and where a block and a write lie. -/
namespace Go.Proofs.Ytfaingklglelnaa
open Go.RowKit

theorem dsk_kp {w w' : World} {base d s : Nat} {v : Value} {D : Dsk} (h : DskA w base d s v D) {gs : List Nat} (k : Kp gs w w') (hd : d ∉ gs) (hs : s ∉ gs) (hv : ∀ g, v.ownBlock = some g → g ∉ gs) : DskA w' base d s v D where
  hd := h.hd.kp k hd
  hs := h.hs.kp k hs
  hq := by
    refine ⟨h.hq.1, ?_⟩
    rcases h.hq.2 with h0 | ⟨g, cap, cur, rfl, h2, h3, h4⟩
    · exact .inl h0
    · have hl : g < w.heap.size := by
        rcases Nat.lt_or_ge g w.heap.size with hl | hg
        · exact hl
        · rw [Array.getElem?_eq_none hg] at h3; cases h3
      exact .inr ⟨g, cap, cur, rfl, h2, (k.block g hl (hv g rfl)).trans h3, h4⟩
  ne := h.ne
  nq := h.nq
  db := h.db
  sb := h.sb
  ok := h.ok
/-- A sure block lies there, byte by byte. -/
theorem fl_mid {α : Type} {f : α → List Value} {k : Nat} (xs : List α) (hk : ∀ x ∈ xs, (f x).length = k) (i : Nat) (x : α) (hx : xs[i]? = some x) (j : Nat) (v : Value) (hv : (f x)[j]? = some v) : (xs.flatMap f)[i * k + j]? = some v := by
  induction xs generalizing i with
  | nil => simp at hx
  | cons y xs ih =>
    have hy := hk y (by simp)
    rw [List.flatMap_cons]
    cases i with
    | zero =>
      simp only [List.getElem?_cons_zero, Option.some.injEq] at hx
      subst hx
      rw [Nat.zero_mul, Nat.zero_add, List.getElem?_append_left (List.getElem?_eq_some_iff.1 hv).1]
      exact hv
    | succ i =>
      rw [List.getElem?_append_right (by rw [hy, Nat.succ_mul]; omega), hy, show (i + 1) * k + j - k = i * k + j by rw [Nat.succ_mul]; omega]
      exact ih (fun z hz => hk z (by simp [hz])) i (by simpa using hx)
theorem get_app_left {a b : Array Value} {i : Nat} {v : Value} (h : a[i]? = some v) : (a ++ b)[i]? = some v := by
  rw [Array.getElem?_append_left (Array.getElem?_eq_some_iff.1 h).1]; exact h
theorem at_sure {w : World} {base d s : Nat} {v : Value} {D : Dsk} (h : DskA w base d s v D) (i : Nat) (b : List UInt8) (hb : D.sure[i]? = some b) : w.rangeAt s (i * 64) (u8s b) := fun j u hu => by
  rw [h.hs.cell]
  refine get_app_left ?_
  have := fl_mid (f := blkC) (k := 64) D.sure (fun x hx => by unfold blkC; rw [u8s_length]; exact h.ok.b x hx) i b hb j u hu
  simpa [sureC, fl] using this
theorem at_queue {w : World} {base d s : Nat} {v : Value} {D : Dsk} (h : DskA w base d s v D) (i : Nat) (x : Nat × List UInt8) (hx : D.queue[i]? = some x) : ∃ g c, v = .slice (some ⟨g, 0, none⟩) D.queue.length c ∧ w.rangeAt g (i * 65) (wrC x) := by
  have hi := (List.getElem?_eq_some_iff.1 hx).1
  rcases h.hq.2 with ⟨_, h0⟩ | ⟨g, cap, cur, rfl, h2, h3, h4, h5, h6, h7⟩
  · omega
  · refine ⟨g, cap, rfl, fun j u hu => ?_⟩
    have e := fl_mid (f := wrC) (k := 65) D.queue (fun y hy => by unfold wrC; rw [List.length_cons, u8s_length, (h.ok.q y hy).1]) i x hx j u hu
    rw [cell_of_row w g (i * 65 + j) cur _ (0, 0) h3]
    have e2 : (cur.toList.take (D.queue.length * 65))[i * 65 + j]? = some u := by rw [h7]; exact e
    rw [List.getElem?_take] at e2
    split at e2
    · simpa using e2
    · cases e2

theorem arm_no (w : World) (base d s : Nat) (v : Value) (D : Dsk) (n : Int) (h : DskA w base d s v D) (hn : n < 0) :
    Calls Try.prog 23 #[.pointer (some ⟨d, 0, none⟩), .int .i64 n] w fun e w' => e = .returned (.int .i64 22) ∧ w = w' := by
  clear h
  go_enter Try.func23, Try.ntmps23
  go_wp2
  go_ret
  exact ⟨rfl, rfl⟩
theorem arm_dead (w : World) (base d s : Nat) (v : Value) (D : Dsk) (n : Int) (h : DskA w base d s v D) (hn : ¬ n < 0) (hl : D.left = 0) :
    Calls Try.prog 23 #[.pointer (some ⟨d, 0, none⟩), .int .i64 n] w fun e w' => e = .returned (.int .i64 102) ∧ w = w' := by
  obtain ⟨c0, c1, c2, c3, f1, f2, f3⟩ := dsk_cells h
  rw [hl] at c3
  clear h hl
  go_enter Try.func23, Try.ntmps23
  go_wp2
  go_ret
  exact ⟨rfl, rfl⟩
theorem DskM.armed {td tb ti : TypeId} {w : World} {base d s : Nat} {v : Value} {D : Dsk} (h : DskM td tb ti w base d s v D) (n : Int) (h0 : 0 ≤ n) (h1 : n ≤ 9223372036854775807) :
    DskM td tb ti (w.setCell ⟨d, 3, none⟩ (.int .i64 n)) base d s v { D with left := n } where
  hd := h.hd.set 3 (.int .i64 n)
  hs := h.hs.far (p := ⟨d, 3, none⟩) h.ne.symm _
  hq := by
    refine ⟨h.hq.1, ?_⟩
    rcases h.hq.2 with h0 | ⟨g, cap, cur, rfl, h2, h3, h4⟩
    · exact .inl h0
    · exact .inr ⟨g, cap, cur, rfl, h2, (Below.heap_setCell _ ⟨d, 3, none⟩ _ g (h.nq g rfl).1).trans h3, h4⟩
  ne := h.ne
  nq := h.nq
  db := h.db
  sb := h.sb
  ok := { h.ok with l := by show -1 ≤ n ∧ n ≤ 9223372036854775807; omega }
theorem arm_ok (w : World) (base d s : Nat) (v : Value) (D : Dsk) (n : Int) (h : DskA w base d s v D) (h0 : 0 ≤ n) (h1 : n ≤ 9223372036854775807) (hl : D.left ≠ 0) :
    Calls Try.prog 23 #[.pointer (some ⟨d, 0, none⟩), .int .i64 n] w fun e w' => e = .returned (.int .i64 0) ∧ DskA w' base d s v { D with left := n } ∧ Kp [d] w w' := by
  obtain ⟨c0, c1, c2, c3, f1, f2, f3⟩ := dsk_cells h
  have H := hide (h.armed n h0 h1)
  obtain ⟨l1, l2⟩ := h.ok.l
  clear h
  have hl' : (D.left == 0) = false := by simpa using hl
  generalize D.left = lf at *
  clear hl
  go_enter Try.func23, Try.ntmps23
  go_wp2
  go_ret
  exact ⟨rfl, H.out, (Kp.refl _ _).set (.inl (by simp)) _⟩

theorem read_no (w : World) (base d s : Nat) (v : Value) (D : Dsk) (i : Int) (h : DskA w base d s v D) (hi : ¬ (0 ≤ i ∧ i < D.sure.length)) :
    Calls Try.prog 22 #[.pointer (some ⟨d, 0, none⟩), .int .i64 i] w fun e w' => e = .returned (.tuple #[.slice none 0 0, .int .i64 22]) ∧ w = w' := by
  obtain ⟨c0, c1, c2, c3, f1, f2, f3⟩ := dsk_cells h
  clear h
  by_cases h1 : i < 0
  · clear hi
    go_enter Try.func22, Try.ntmps22
    go_wp2
    go_ret2
    exact ⟨rfl, rfl⟩
  · have h2 : (D.sure.length : Int) ≤ i := by omega
    clear hi
    go_enter Try.func22, Try.ntmps22
    go_wp2
    go_ret2
    exact ⟨rfl, rfl⟩
end Go.Proofs.Ytfaingklglelnaa
