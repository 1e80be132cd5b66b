/- A region that draws its order, where operations make memory and grow rows of the call's own: one law for all orders: each operation's step once. No program in sight. -/
import Derived.Test.YtopjkpopdffkeaaDoorBlk
import Derived.Deep.RegionHeld3
set_option linter.unusedVariables false
set_option linter.unusedSimpArgs false
namespace Go.Proofs.YtopjkpopdffkeaaDoor
open Go.RowKit

theorem inj_of_nodup {α β : Type} {f : α → β} : ∀ {l : List α}, (l.map f).Nodup → ∀ x ∈ l, ∀ y ∈ l, f x = f y → x = y
  | [], _, x, hx, _, _, _ => by cases hx
  | z :: l, h, x, hx, y, hy, e => by
    rw [List.map_cons, List.nodup_cons] at h
    rcases List.mem_cons.1 hx with rfl | hx'
    · rcases List.mem_cons.1 hy with rfl | hy'
      · rfl
      · exact absurd (by rw [e]; exact List.mem_map_of_mem hy') h.1
    · rcases List.mem_cons.1 hy with rfl | hy'
      · exact absurd (by rw [← e]; exact List.mem_map_of_mem hx') h.1
      · exact inj_of_nodup h.2 x hx' y hy' e

/-- The blocks that a value names: a slice, a pointer, a struct of such. -/
def vb1 : Value → List Nat
  | .slice (some a) _ _ => [a.block]
  | .pointer (some a) => [a.block]
  | _ => []
def vbs : Value → List Nat
  | .agg cs => cs.toList.flatMap vb1
  | v => vb1 v
/-- An operation that makes or grows: its number, its temporary, whose rows it takes over, whose it reads; what its value is good for. -/
structure CO where
  i : Nat
  d : Nat
  eat : List Nat
  reads : List Nat
  F : Value → World → Prop
structure CO.Ok (x : CO) (base : Nat) : Prop where
  keep : ∀ (v : Value) (w w' : World) (r : Option Nat), x.F v w → w.grownBy w' r → (∀ g ∈ vbs v, some g ≠ r) → x.F v w'
  lt : ∀ (v : Value) (w : World), x.F v w → ∀ g ∈ vbs v, base ≤ g ∧ g < w.heap.size

section
variable {P : Program} {ops : Array Oper} {Q : Exit → Act → World → Prop} {md : Region.Mode} {S : World → Prop}

/-- Its step, in whatever order the others came. -/
def CO.Step (P : Program) (ops : Array Oper) (Q : Exit → Act → World → Prop) (C : List CO) (w0 : World) (base : Nat) (a0 : Act) (x : CO) : Prop :=
  ∀ (a : Act) (w : World) (K : Act → World → Prop), Below base w0 w → base ≤ w.heap.size → (∀ k, (∀ y ∈ C, y.d ≠ k) → a.tmps.getD k undef = a0.tmps.getD k undef) →
    (∀ y ∈ C, y.i ∈ x.reads → y.F (a.tmps.getD y.d undef) w) →
    (∀ y ∈ C, ∀ z ∈ C, y.i ∈ x.reads → z.i ∈ x.reads → y.i ≠ z.i → ∀ g ∈ vbs (a.tmps.getD y.d undef), g ∉ vbs (a.tmps.getD z.d undef)) →
    (∀ (v : Value) (w' : World) (r : Option Nat), x.F v w' → w.grownBy w' r → (∀ g, r = some g → ∃ y ∈ C, y.i ∈ x.eat ∧ g ∈ vbs (a.tmps.getD y.d undef)) →
      (∀ g ∈ vbs v, w.heap.size ≤ g ∨ ∃ y ∈ C, y.i ∈ x.eat ∧ g ∈ vbs (a.tmps.getD y.d undef)) → K (a.put (some x.d) v) w') → wpOp P ops Q x.i K a w

def lF (H : List (CO × Value)) (l0 : Array Bool) : Array Bool := H.foldl (fun l h => l.setIfInBounds h.1.i true) l0
def aF (H : List (CO × Value)) (a0 : Act) : Act := H.foldl (fun a h => a.put (some h.1.d) h.2) a0
theorem lF_app (H : List (CO × Value)) (h : CO × Value) (l0 : Array Bool) : lF (H ++ [h]) l0 = (lF H l0).setIfInBounds h.1.i true := by simp [lF, List.foldl_append]
theorem aF_app (H : List (CO × Value)) (h : CO × Value) (a0 : Act) : aF (H ++ [h]) a0 = (aF H a0).put (some h.1.d) h.2 := by simp [aF, List.foldl_append]
theorem getD_set_self {l : Array Bool} {i : Nat} (b : Bool) (h : l.getD i true = false) : (l.setIfInBounds i true).getD i b = true := by
  have hlt : i < l.size := by
    rcases Nat.lt_or_ge i l.size with h' | h'
    · exact h'
    · simp [Array.getElem?_eq_none h'] at h
  simp [hlt]
theorem lF_not (H : List (CO × Value)) (l0 : Array Bool) (k : Nat) (b : Bool) (hk : ∀ h ∈ H, h.1.i ≠ k) : (lF H l0).getD k b = l0.getD k b := by
  unfold lF
  induction H generalizing l0 with
  | nil => rfl
  | cons h H ih =>
    rw [List.foldl_cons, ih _ (fun x hx => hk x (by simp [hx]))]
    exact getD_set_ne b (hk h (by simp))
theorem lF_mono (H : List (CO × Value)) (l0 : Array Bool) (k : Nat) (h : l0.getD k false = true) : (lF H l0).getD k false = true := by
  unfold lF
  induction H generalizing l0 with
  | nil => exact h
  | cons x H ih => rw [List.foldl_cons]; exact ih _ (getD_set_true h)
theorem lF_in (H : List (CO × Value)) (l0 : Array Bool) (h0 : ∀ h ∈ H, l0.getD h.1.i true = false) (h : CO × Value) (hh : h ∈ H) : (lF H l0).getD h.1.i false = true := by
  induction H generalizing l0 with
  | nil => cases hh
  | cons x H ih =>
    unfold lF
    rw [List.foldl_cons]
    by_cases e : h.1.i = x.1.i
    · rw [e]
      exact lF_mono H _ _ (getD_set_self false (h0 x (by simp)))
    · rcases List.mem_cons.1 hh with rfl | hh'
      · exact absurd rfl e
      · have hih := ih (l0.setIfInBounds x.1.i true)
        by_cases hex : ∃ y ∈ H, y.1.i = x.1.i
        · -- set already: either way the entry is true
          clear hih
          suffices hs : ∀ (H : List (CO × Value)) (l : Array Bool), l.getD h.1.i true = false ∨ l.getD h.1.i false = true → h ∈ H → (H.foldl (fun l h => l.setIfInBounds h.1.i true) l).getD h.1.i false = true from
            hs H _ (.inl (by rw [getD_set_ne true (Ne.symm e)]; exact h0 h (by simp [hh']))) hh'
          intro H
          induction H with
          | nil => intro l _ h; cases h
          | cons z H ih2 =>
            intro l hl hm
            rw [List.foldl_cons]
            by_cases ez : z.1.i = h.1.i
            · refine lF_mono H _ _ ?_
              rw [ez]
              rcases hl with hl | hl
              · exact getD_set_self false hl
              · exact getD_set_true hl
            · rcases List.mem_cons.1 hm with rfl | hm
              · exact absurd rfl ez
              · refine ih2 _ ?_ hm
                rw [getD_set_ne true ez, getD_set_ne false ez]
                exact hl
        · refine hih (fun y hy => ?_) hh'
          rw [getD_set_ne true (fun e => hex ⟨y, hy, e.symm⟩)]
          exact h0 y (by simp [hy])
theorem put_getD_ne (a : Act) {d k : Nat} (v : Value) (h : d ≠ k) : (a.put (some d) v).tmps.getD k undef = a.tmps.getD k undef := by
  simp [Act.put, Array.getElem?_setIfInBounds_ne h]
theorem put_getD_self (a : Act) {d : Nat} (v : Value) (h : d < a.tmps.size) : (a.put (some d) v).tmps.getD d undef = v := by
  simp [Act.put, h]
theorem put_size (a : Act) (d : Nat) (v : Value) : (a.put (some d) v).tmps.size = a.tmps.size := by simp [Act.put]
theorem aF_size (H : List (CO × Value)) (a0 : Act) : (aF H a0).tmps.size = a0.tmps.size := by
  unfold aF
  induction H generalizing a0 with
  | nil => rfl
  | cons h H ih => rw [List.foldl_cons, ih, put_size]
theorem aF_not (H : List (CO × Value)) (a0 : Act) (k : Nat) (hk : ∀ h ∈ H, h.1.d ≠ k) : (aF H a0).tmps.getD k undef = a0.tmps.getD k undef := by
  unfold aF
  induction H generalizing a0 with
  | nil => rfl
  | cons h H ih =>
    rw [List.foldl_cons, ih _ (fun x hx => hk x (by simp [hx])), put_getD_ne _ _ (hk h (by simp))]
theorem aF_in (H : List (CO × Value)) (a0 : Act) (hn : (H.map (·.1.d)).Nodup) (hd : ∀ h ∈ H, h.1.d < a0.tmps.size) (h : CO × Value) (hh : h ∈ H) : (aF H a0).tmps.getD h.1.d undef = h.2 := by
  induction H generalizing a0 with
  | nil => cases hh
  | cons x H ih =>
    rw [List.map_cons, List.nodup_cons] at hn
    unfold aF
    rw [List.foldl_cons]
    rcases List.mem_cons.1 hh with rfl | hh'
    · have := aF_not H (a0.put (some h.1.d) h.2) h.1.d (fun y hy e => hn.1 (by rw [← e]; exact List.mem_map_of_mem hy))
      unfold aF at this
      rw [this]
      exact put_getD_self _ _ (hd h (by simp))
    · exact ih _ hn.2 (fun y hy => by rw [put_size]; exact hd y (by simp [hy])) hh'

/-- Nobody has taken its row over. -/
def Free (H : List (CO × Value)) (h : CO × Value) : Prop := ∀ k ∈ H, h.1.i ∉ k.1.eat
structure CInv (ops : Array Oper) (md : Region.Mode) (C : List CO) (w0 : World) (base : Nat) (a0 : Act) (l0 : Array Bool) (H : List (CO × Value)) (R : List CO) (w : World) : Prop where
  pm : (H.map (·.1) ++ R).Perm C
  bel : Below base w0 w
  hs : base ≤ w.heap.size
  f : ∀ h ∈ H, Free H h → h.1.F h.2 w
  ap : ∀ h ∈ H, ∀ k ∈ H, h.1.i ≠ k.1.i → Free H h → Free H k → ∀ g ∈ vbs h.2, g ∉ vbs k.2
  cl : ∀ h ∈ H, ∀ o, ops[h.1.i]? = some o → ∀ e ∈ o.after, Region.binds md e = true → (lF H l0).getD e.on false = true

/-- What is asked of the operations' text. -/
structure COk (ops : Array Oper) (md : Region.Mode) (C : List CO) (l0 : Array Bool) (a0 : Act) (stop : Nat) : Prop where
  ni : (C.map (·.i)).Nodup
  nd : (C.map (·.d)).Nodup
  un : ∀ x ∈ C, l0.getD x.i true = false
  ds : ∀ x ∈ C, x.d < a0.tmps.size
  ex : ∀ x ∈ C, ∃ o, ops[x.i]? = some o ∧ (∀ e ∈ o.after, Region.binds md e = true → l0.getD e.on false = true ∨ (e.on < x.i ∧ ∃ y ∈ C, y.i = e.on)) ∧ (∀ r ∈ x.reads, ∃ e ∈ o.after, Region.binds md e = true ∧ e.on = r) ∧ (∀ r ∈ x.eat, r ∈ x.reads) ∧ (∀ r ∈ x.reads, ∃ y ∈ C, y.i = r)
  eo : ∀ x ∈ C, ∀ r ∈ x.reads, ∀ z ∈ C, r ∈ z.eat → z.i = x.i
  up : ∀ x ∈ C, ∃ s o, (s = stop ∨ ∃ y ∈ C, y.i = s) ∧ x.i < s ∧ ops[s]? = some o ∧ ∃ e ∈ o.after, Region.binds md e = true ∧ e.on = x.i
  st : ∀ x ∈ C, x.i < stop
  ot : ∀ k, l0.getD k true = false → (∃ x ∈ C, x.i = k) ∨ k = stop ∨ ∃ o, ops[k]? = some o ∧ ∃ e ∈ o.after, Region.binds md e = true ∧ l0.getD e.on true = false ∧ ∀ x ∈ C, x.i ≠ e.on
theorem getD_ft {l : Array Bool} {k : Nat} (h : l.getD k false = true) : l.getD k true = true := by
  rcases Nat.lt_or_ge k l.size with h' | h'
  · simp [h'] at h ⊢; exact h
  · simp [Array.getElem?_eq_none h'] at h
theorem getD_tf {l : Array Bool} {k : Nat} (h : l.getD k true = false) : l.getD k false = false := by
  rcases Nat.lt_or_ge k l.size with h' | h'
  · simp [h'] at h ⊢; exact h
  · simp [Array.getElem?_eq_none h'] at h
section
variable {C : List CO} {w0 w : World} {base : Nat} {a0 : Act} {l0 : Array Bool} {stop : Nat} {H : List (CO × Value)} {R : List CO}
theorem CInv.inC (h : CInv ops md C w0 base a0 l0 H R w) : (∀ x ∈ H, x.1 ∈ C) ∧ (∀ x ∈ R, x ∈ C) ∧ ∀ x ∈ C, x ∈ H.map (·.1) ∨ x ∈ R :=
  ⟨fun x hx => (h.pm.mem_iff).1 (List.mem_append_left _ (List.mem_map_of_mem hx)), fun x hx => (h.pm.mem_iff).1 (List.mem_append_right _ hx), fun x hx => List.mem_append.1 ((h.pm.mem_iff).2 hx)⟩
theorem CInv.nod (h : CInv ops md C w0 base a0 l0 H R w) (hC : COk ops md C l0 a0 stop) : ((H.map (·.1.i)) ++ R.map (·.i)).Nodup := by
  have := (h.pm.map (·.i)).nodup_iff.2 hC.ni
  simpa [List.map_append, List.map_map, Function.comp_def] using this
theorem CInv.nodH (h : CInv ops md C w0 base a0 l0 H R w) (hC : COk ops md C l0 a0 stop) : (H.map (·.1.i)).Nodup := (List.nodup_append.1 (h.nod hC)).1
theorem CInv.nodD (h : CInv ops md C w0 base a0 l0 H R w) (hC : COk ops md C l0 a0 stop) : (H.map (·.1.d)).Nodup := by
  have := (h.pm.map (·.d)).nodup_iff.2 hC.nd
  rw [List.map_append, List.map_map] at this
  exact (List.nodup_append.1 this).1
theorem CInv.sep (h : CInv ops md C w0 base a0 l0 H R w) (hC : COk ops md C l0 a0 stop) {x : CO} (hx : x ∈ R) : ∀ k ∈ H, k.1.i ≠ x.i := fun k hk e =>
  (List.nodup_append.1 (h.nod hC)).2.2 _ (List.mem_map_of_mem hk) _ (List.mem_map_of_mem hx) e
theorem CInv.off (h : CInv ops md C w0 base a0 l0 H R w) (hC : COk ops md C l0 a0 stop) {x : CO} (hx : x ∈ R) : (lF H l0).getD x.i true = false := by
  rw [lF_not H l0 x.i true (h.sep hC hx)]
  exact hC.un x (h.inC.2.1 x hx)
theorem CInv.on (h : CInv ops md C w0 base a0 l0 H R w) (hC : COk ops md C l0 a0 stop) {k : CO × Value} (hk : k ∈ H) : (lF H l0).getD k.1.i false = true :=
  lF_in H l0 (fun x hx => hC.un x.1 (h.inC.1 x hx)) k hk
/-- What is listed and of C has come. -/
theorem CInv.come (h : CInv ops md C w0 base a0 l0 H R w) (hC : COk ops md C l0 a0 stop) {y : CO} (hy : y ∈ C) (hl : (lF H l0).getD y.i false = true) : ∃ k ∈ H, k.1 = y := by
  rcases h.inC.2.2 y hy with h1 | h1
  · obtain ⟨k, hk, e⟩ := List.mem_map.1 h1
    exact ⟨k, hk, e⟩
  · have := h.off hC h1
    rw [getD_ft hl] at this
    cases this
theorem CInv.prog (h : CInv ops md C w0 base a0 l0 H R w) (hC : COk ops md C l0 a0 stop) : ∀ m, ∀ x ∈ R, x.i = m → ∃ j, j ∈ Region.ready md ops (lF H l0) := by
  intro m
  induction m using Nat.strongRecOn with
  | ind m ih =>
    intro x hx hm
    obtain ⟨o, ho, h1, -⟩ := hC.ex x (h.inC.2.1 x hx)
    by_cases hall : ∀ e ∈ o.after, Region.binds md e = true → (lF H l0).getD e.on false = true
    · exact ⟨x.i, mem_ready.2 ⟨h.off hC hx, o, ho, hall⟩⟩
    · obtain ⟨e, he⟩ := Classical.not_forall.1 hall
      obtain ⟨he1, he⟩ := Classical.not_imp.1 he
      obtain ⟨he2, he⟩ := Classical.not_imp.1 he
      rcases h1 e he1 he2 with h2 | ⟨h2, y, hy, hye⟩
      · exact absurd (lF_mono H l0 _ h2) he
      · rcases h.inC.2.2 y hy with h3 | h3
        · obtain ⟨k, hk, ek⟩ := List.mem_map.1 h3
          have := h.on hC hk
          rw [ek, hye] at this
          exact absurd this he
        · exact ih y.i (by omega) y h3 rfl
theorem CInv.notStop (h : CInv ops md C w0 base a0 l0 H R w) (hC : COk ops md C l0 a0 stop) (hr : stop ∈ Region.ready md ops (lF H l0)) : ∀ m, ∀ x ∈ R, stop - x.i = m → False := by
  obtain ⟨hs0, os, hos, hse⟩ := mem_ready.1 hr
  intro m
  induction m using Nat.strongRecOn with
  | ind m ih =>
    intro x hx hm
    have hoff := getD_tf (h.off hC hx)
    have hxC := h.inC.2.1 x hx
    obtain ⟨s, o, hs, hlt, ho, e, he1, he2, he3⟩ := hC.up x hxC
    rcases hs with rfl | ⟨y, hy, rfl⟩
    · rw [hos] at ho
      injection ho with ho
      subst ho
      have := hse e he1 he2
      rw [he3, hoff] at this
      cases this
    · rcases h.inC.2.2 y hy with h3 | h3
      · obtain ⟨k, hk, ek⟩ := List.mem_map.1 h3
        have := h.cl k hk o (by rw [ek]; exact ho) e he1 he2
        rw [he3, hoff] at this
        cases this
      · have := hC.st y hy
        exact ih (stop - y.i) (by omega) y h3 rfl
theorem CInv.which (h : CInv ops md C w0 base a0 l0 H R w) (hC : COk ops md C l0 a0 stop) (hR : R ≠ []) {i : Nat} (hi : i ∈ Region.ready md ops (lF H l0)) : ∃ x ∈ R, x.i = i := by
  obtain ⟨h0, o, ho, he⟩ := mem_ready.1 hi
  have hno : ∀ k ∈ H, k.1.i ≠ i := fun k hk e => by
    have := getD_ft (h.on hC hk)
    rw [e, h0] at this
    cases this
  have h00 : l0.getD i true = false := by rw [← lF_not H l0 i true hno]; exact h0
  rcases hC.ot i h00 with ⟨x, hx, rfl⟩ | rfl | ⟨o', ho', e, he1, he2, he3, he4⟩
  · rcases h.inC.2.2 x hx with h3 | h3
    · obtain ⟨k, hk, ek⟩ := List.mem_map.1 h3
      exact absurd (by rw [ek]) (hno k hk)
    · exact ⟨x, h3, rfl⟩
  · obtain ⟨x, hx⟩ := List.exists_mem_of_ne_nil R hR
    exact (h.notStop hC hi _ x hx rfl).elim
  · rw [ho] at ho'
    injection ho' with ho'
    subst ho'
    have h5 := he e he1 he2
    rw [lF_not H l0 e.on false (fun k hk => he4 k.1 (h.inC.1 k hk)), getD_tf he3] at h5
    cases h5
theorem CInv.free (h : CInv ops md C w0 base a0 l0 H R w) (hC : COk ops md C l0 a0 stop) {x : CO} (hx : x ∈ R) {k : CO × Value} (hk : k.1.i ∈ x.reads) : Free H k := fun z hz hin =>
  h.sep hC hx z hz (hC.eo x (h.inC.2.1 x hx) _ hk z.1 (h.inC.1 z hz) hin)
theorem CInv.val (h : CInv ops md C w0 base a0 l0 H R w) (hC : COk ops md C l0 a0 stop) {k : CO × Value} (hk : k ∈ H) : (aF H a0).tmps.getD k.1.d undef = k.2 :=
  aF_in H a0 (h.nodD hC) (fun x hx => hC.ds x.1 (h.inC.1 x hx)) k hk
theorem CInv.read (h : CInv ops md C w0 base a0 l0 H R w) (hC : COk ops md C l0 a0 stop) {x : CO} (hx : x ∈ R) (hr : x.i ∈ Region.ready md ops (lF H l0)) {y : CO} (hy : y ∈ C) (hyr : y.i ∈ x.reads) : ∃ k ∈ H, k.1 = y ∧ Free H k ∧ (aF H a0).tmps.getD y.d undef = k.2 := by
  obtain ⟨-, o, ho, he⟩ := mem_ready.1 hr
  obtain ⟨o', ho', -, h2, -⟩ := hC.ex x (h.inC.2.1 x hx)
  rw [ho] at ho'
  injection ho' with ho'
  subst ho'
  obtain ⟨e, he1, he2, he3⟩ := h2 y.i hyr
  obtain ⟨k, hk, rfl⟩ := h.come hC hy (by rw [← he3]; exact he e he1 he2)
  exact ⟨k, hk, rfl, h.free hC hx hyr, h.val hC hk⟩
theorem CInv.next (h : CInv ops md C w0 base a0 l0 H R w) (hC : COk ops md C l0 a0 stop) (hok : ∀ x ∈ C, x.Ok base) {s t : List CO} {x : CO} (hR : R = s ++ x :: t) (hr : x.i ∈ Region.ready md ops (lF H l0))
    {v : Value} {w' : World} {r : Option Nat} (hF : x.F v w') (hg : w.grownBy w' r) (hr1 : ∀ g, r = some g → ∃ y ∈ C, y.i ∈ x.eat ∧ g ∈ vbs ((aF H a0).tmps.getD y.d undef))
    (hv : ∀ g ∈ vbs v, w.heap.size ≤ g ∨ ∃ y ∈ C, y.i ∈ x.eat ∧ g ∈ vbs ((aF H a0).tmps.getD y.d undef)) : CInv ops md C w0 base a0 l0 (H ++ [(x, v)]) (s ++ t) w' := by
  have hx : x ∈ R := by rw [hR]; simp
  have hxC := h.inC.2.1 x hx
  obtain ⟨o, ho, -, -, her, -⟩ := hC.ex x hxC
  -- eaten rows lie apart from all that stays
  have heat : ∀ y ∈ C, y.i ∈ x.eat → ∀ k ∈ H, Free H k → k.1.i ∉ x.eat → ∀ g ∈ vbs ((aF H a0).tmps.getD y.d undef), g ∉ vbs k.2 := fun y hy hye k hk hfk hke g hg' => by
    obtain ⟨z, hz, rfl, hfz, hvz⟩ := h.read hC hx hr hy (her _ hye)
    rw [hvz] at hg'
    exact h.ap z hz k hk (fun e => hke (by rw [← e]; exact hye)) hfz hfk g hg'
  have hrb : ∀ g, r = some g → base ≤ g := fun g hrg => by
    obtain ⟨y, hy, hye, hyg⟩ := hr1 g hrg
    obtain ⟨z, hz, rfl, hfz, hvz⟩ := h.read hC hx hr hy (her _ hye)
    rw [hvz] at hyg
    exact ((hok z.1 hy).lt _ _ (h.f z hz hfz) g hyg).1
  have hfree : ∀ k ∈ H, Free (H ++ [(x, v)]) k → Free H k ∧ k.1.i ∉ x.eat := fun k _ hf => ⟨fun z hz => hf z (List.mem_append_left _ hz), hf (x, v) (by simp)⟩
  refine ⟨?_, ?_, Nat.le_trans h.hs hg.size, ?_, ?_, ?_⟩
  · have := h.pm
    rw [hR] at this
    refine List.Perm.trans ?_ this
    rw [List.map_append, List.append_assoc]
    exact List.Perm.append_left _ (List.perm_middle (l₁ := s) (l₂ := t) (a := x)).symm
  · have hb := h.bel
    exact ⟨hg.os.trans hb.os, hg.tape.trans hb.tape, hg.output.trans hb.output, Nat.le_trans hb.size hg.size, fun i hi => (hg.block i (Nat.lt_of_lt_of_le hi h.hs) (fun e => by have := hrb i e.symm; omega)).trans (hb.block i hi)⟩
  · intro k hk hf
    rcases List.mem_append.1 hk with hk | hk
    · obtain ⟨hf1, hf2⟩ := hfree k hk hf
      refine (hok k.1 (h.inC.1 k hk)).keep _ _ _ r (h.f k hk hf1) hg (fun g hgk e => ?_)
      obtain ⟨y, hy, hye, hyg⟩ := hr1 g e.symm
      exact heat y hy hye k hk hf1 hf2 g hyg hgk
    · obtain rfl := List.mem_singleton.1 hk
      exact hF
  · have hnew : ∀ k ∈ H, Free (H ++ [(x, v)]) k → ∀ g ∈ vbs v, g ∉ vbs k.2 := fun k hk hf g hgv hgk => by
      obtain ⟨hf1, hf2⟩ := hfree k hk hf
      rcases hv g hgv with h1 | ⟨y, hy, hye, hyg⟩
      · have := ((hok k.1 (h.inC.1 k hk)).lt _ _ (h.f k hk hf1) g hgk).2
        omega
      · exact heat y hy hye k hk hf1 hf2 g hyg hgk
    intro k hk z hz hne hfk hfz g hgk hgz
    rcases List.mem_append.1 hk with hk | hk
    · rcases List.mem_append.1 hz with hz | hz
      · exact h.ap k hk z hz hne (hfree k hk hfk).1 (hfree z hz hfz).1 g hgk hgz
      · obtain rfl := List.mem_singleton.1 hz
        exact hnew k hk hfk g hgz hgk
    · obtain rfl := List.mem_singleton.1 hk
      rcases List.mem_append.1 hz with hz | hz
      · exact hnew z hz hfz g hgk hgz
      · obtain rfl := List.mem_singleton.1 hz
        exact hne rfl
  · intro k hk o' ho' e he1 he2
    rw [lF_app]
    rcases List.mem_append.1 hk with hk | hk
    · exact getD_set_true (h.cl k hk o' ho' e he1 he2)
    · obtain rfl := List.mem_singleton.1 hk
      obtain ⟨-, o2, ho2, he⟩ := mem_ready.1 hr
      rw [ho2] at ho'
      injection ho' with ho'
      subst ho'
      exact getD_set_true (he e he1 he2)

/-- All orders at once. -/
theorem region_rows (hC : COk ops md C l0 a0 stop) (hok : ∀ x ∈ C, x.Ok base) (hst : ∀ x ∈ C, x.Step P ops Q C w0 base a0) (hS : ∀ w, Below base w0 w → base ≤ w.heap.size → S w) (hb : Below base w0 w) (hs : base ≤ w.heap.size) {fuel : Nat}
    (hend : ∀ (vals : Nat → Value) (w' : World), Below base w0 w' → base ≤ w'.heap.size → (∀ x ∈ C, (∀ y ∈ C, x.i ∉ y.eat) → x.F (vals x.i) w') →
      (∀ x ∈ C, ∀ z ∈ C, x.i ≠ z.i → (∀ y ∈ C, x.i ∉ y.eat) → (∀ y ∈ C, z.i ∉ y.eat) → ∀ g ∈ vbs (vals x.i), g ∉ vbs (vals z.i)) →
      wpAnyH P md ops Q S fuel (C.foldl (fun l x => l.setIfInBounds x.i true) l0) (C.foldl (fun a x => a.put (some x.d) (vals x.i)) a0) w') :
    wpAnyH P md ops Q S (fuel + C.length) l0 a0 w := by
  have main : ∀ (n : Nat) (H : List (CO × Value)) (R : List CO) (w : World), R.length = n → CInv ops md C w0 base a0 l0 H R w → wpAnyH P md ops Q S (fuel + n) (lF H l0) (aF H a0) w := by
    intro n
    induction n with
    | zero =>
      intro H R w hn h
      have hR := List.eq_nil_of_length_eq_zero hn
      subst hR
      have hnod := h.nodH hC
      let vals : Nat → Value := fun i => ((H.find? (fun k => k.1.i == i)).map (·.2)).getD undef
      have hvals : ∀ k ∈ H, vals k.1.i = k.2 := fun k hk => by
        show ((H.find? (fun k' => k'.1.i == k.1.i)).map (·.2)).getD undef = k.2
        rcases hf : H.find? (fun k' => k'.1.i == k.1.i) with _ | z
        · have := List.find?_eq_none.1 hf k hk
          simp at this
        · have h1 := List.find?_some hf
          have h2 := List.mem_of_find?_eq_some hf
          have h3 := inj_of_nodup (f := fun k : CO × Value => k.1.i) hnod z h2 k hk (by simpa using h1)
          rw [hf]
          show z.2 = k.2
          rw [h3]
      have hpm : H.Perm (C.map fun x => (x, vals x.i)) := by
        have h1 := (h.pm.map (fun x : CO => (x, vals x.i)))
        rw [List.append_nil, List.map_map] at h1
        have h2 : H.map ((fun x : CO => (x, vals x.i)) ∘ fun x => x.1) = H := by
          conv => rhs; rw [← List.map_id H]
          refine List.map_congr_left fun k hk => ?_
          simp only [Function.comp, id]
          rw [hvals k hk]
        rwa [h2] at h1
      have hl : lF H l0 = C.foldl (fun l x => l.setIfInBounds x.i true) l0 := by
        unfold lF
        rw [hpm.foldl_eq' (fun x _ y _ z => by
          by_cases e : x.1.i = y.1.i
          · rw [e]
          · exact Array.setIfInBounds_comm _ _ e), List.foldl_map]
      have ha : aF H a0 = C.foldl (fun a x => a.put (some x.d) (vals x.i)) a0 := by
        unfold aF
        rw [hpm.foldl_eq' (fun x hx y hy z => by
          by_cases e : x.1.d = y.1.d
          · have := inj_of_nodup (f := fun k : CO × Value => k.1.d) (h.nodD hC) x hx y hy e
            subst this
            rfl
          · exact Act.put_comm z _ _ (fun d hd => by injection hd with hd; subst hd; intro e2; injection e2 with e2; exact e e2.symm)), List.foldl_map]
      have hall : ∀ x ∈ C, ∃ k ∈ H, k.1 = x := fun x hx => by
        rcases h.inC.2.2 x hx with h1 | h1
        · obtain ⟨k, hk, e⟩ := List.mem_map.1 h1; exact ⟨k, hk, e⟩
        · cases h1
      have hfr : ∀ x ∈ C, (∀ y ∈ C, x.i ∉ y.eat) → ∀ k ∈ H, k.1 = x → Free H k := fun x hx hne k hk e z hz => by
        rw [e]; exact hne z.1 (h.inC.1 z hz)
      rw [hl, ha]
      refine hend vals w h.bel h.hs (fun x hx hne => ?_) (fun x hx z hz hxz hnx hnz => ?_)
      · obtain ⟨k, hk, rfl⟩ := hall x hx
        rw [hvals k hk]
        exact h.f k hk (hfr _ hx hne k hk rfl)
      · obtain ⟨k, hk, rfl⟩ := hall x hx
        obtain ⟨q, hq, rfl⟩ := hall z hz
        rw [hvals k hk, hvals q hq]
        exact h.ap k hk q hq hxz (hfr _ hx hnx k hk rfl) (hfr _ hz hnz q hq rfl)
    | succ n ih =>
      intro H R w hn h
      have hR : R ≠ [] := by intro e; rw [e] at hn; cases hn
      show (Region.ready md ops (lF H l0) = [] → Q .normal (aF H a0) w) ∧ ∀ i ∈ Region.ready md ops (lF H l0), wpOp P ops Q i (fun a' w' => S w' ∧ wpAnyH P md ops Q S (fuel + n) ((lF H l0).setIfInBounds i true) a' w') (aF H a0) w
      refine ⟨fun e => ?_, fun i hi => ?_⟩
      · obtain ⟨x, hx⟩ := List.exists_mem_of_ne_nil R hR
        obtain ⟨j, hj⟩ := h.prog hC _ x hx rfl
        rw [e] at hj
        cases hj
      · obtain ⟨x, hx, rfl⟩ := h.which hC hR hi
        obtain ⟨s, t, hst'⟩ := List.append_of_mem hx
        refine hst x (h.inC.2.1 x hx) _ _ _ h.bel h.hs (fun k hk => aF_not H a0 k (fun z hz => hk z.1 (h.inC.1 z hz))) (fun y hy hyr => ?_) (fun y hy z hz hyr hzr hne => ?_) (fun v w' r hF hg hr1 hv => ?_)
        · obtain ⟨k, hk, rfl, hf, hval⟩ := h.read hC hx hi hy hyr
          rw [hval]
          exact h.f k hk hf
        · obtain ⟨k, hk, rfl, hf, hval⟩ := h.read hC hx hi hy hyr
          obtain ⟨q, hq, rfl, hfq, hvalq⟩ := h.read hC hx hi hz hzr
          rw [hval, hvalq]
          exact h.ap k hk q hq hne hf hfq
        · have hnx := h.next hC hok hst' hi hF hg hr1 hv
          refine ⟨hS w' hnx.bel hnx.hs, ?_⟩
          have := ih (H ++ [(x, v)]) (s ++ t) w' (by rw [hst'] at hn; simp at hn ⊢; omega) hnx
          rw [lF_app, aF_app] at this
          exact this
  have h0 := main C.length [] C w rfl ⟨by simp, hb, hs, fun _ hh => absurd hh (by simp), fun _ hh => absurd hh (by simp), fun _ hh => absurd hh (by simp)⟩
  exact h0
end
end
end Go.Proofs.YtopjkpopdffkeaaDoor
