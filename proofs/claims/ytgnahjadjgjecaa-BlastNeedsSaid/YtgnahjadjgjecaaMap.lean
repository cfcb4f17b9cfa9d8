/- Maps by their entries as a function, and slices of numbers as lists: what the walks of this seat use. -/
import Derived.Maps.OwnOps
import Derived.WalkKit
import Derived.MapFrom
import Derived.Lib.Hide
set_option linter.unusedVariables false
set_option linter.unusedSimpArgs false
namespace Go.Proofs.Ytgnahjadjgjecaa
open Go.RowKit Go.Maps Go.MapKept

/-- What the map operations need of a key's type. -/
structure KeyOps {κ : Type} (P : Program) (kt : TypeId) (ek : κ → Value) : Prop where
  inj : ∀ {x y : κ}, ek x = ek y → x = y
  check : ∀ (w : World) (em : Bool) (x : κ), (Instr.checkKey em 10000 kt (ek x)).run P w = .ok () w
  find : ∀ (w : World) (x : κ) (es : List MapEntry), (∀ e ∈ es, ∃ y, e.key = ek y) →
    ((Instr.findKey kt (ek x) es).run P w = .ok none w ∧ ∀ e ∈ es, e.key ≠ ek x) ∨ ∃ j e, (Instr.findKey kt (ek x) es).run P w = .ok (some (j, e.val)) w ∧ es[j]? = some e ∧ e.key = ek x
  stays : ∀ (w : World) (x : κ), (Instr.keyThatStays (ek x) (ek x)).run P w = .ok (ek x) w

/-- Block b is a map whose entries are those of f. -/
def MapAt {κ : Type} (ek : κ → Value) (w : World) (b : Nat) (f : κ → Option Value) : Prop :=
  ∃ es clock, w.heap[b]? = some (.map es clock) ∧ (∀ e ∈ es.toList, ∃ x, e.key = ek x) ∧ es.toList.Pairwise (fun a b => a.key ≠ b.key) ∧ ∀ x v, f x = some v ↔ ∃ e ∈ es.toList, e.key = ek x ∧ e.val = v

theorem int_ops {P : Program} {kt : TypeId} {q : IntKind} (hk : P.underlying kt = some (.int q)) : KeyOps P kt (fun x : Int => Value.int q x) where
  inj h := by injection h
  check w em x := run_checkKey hk (by simp [IsKey]) em 9999
  stays w x := run_keyThatStays (d := .int q) (by simp [IsKey])
  find w x es hes := by
    have hx : IsKey (.int q) (Value.int q x) := by simp [IsKey]
    rcases findNow_spec hx es 0 (fun e he => by obtain ⟨y, hy⟩ := hes e he; rw [hy]; simp [IsKey]) with ⟨h1, h2⟩ | ⟨j, e0, h1, h2, h3⟩
    · exact Or.inl ⟨run_findKey hk h1, h2⟩
    · exact Or.inr ⟨j, e0, by simpa using run_findKey hk h1, h2, h3⟩

section
variable {κ : Type} {ek : κ → Value} {w w' : World} {b : Nat} {f : κ → Option Value} {P : Program} {kt : TypeId}
theorem MapAt.lt (h : MapAt ek w b f) : b < w.heap.size := by
  obtain ⟨es, clock, hb, _⟩ := h
  exact (Array.getElem?_eq_some_iff.1 hb).1
theorem MapAt.block (h : MapAt ek w b f) (e : w'.heap[b]? = w.heap[b]?) : MapAt ek w' b f := by
  obtain ⟨es, clock, hb, r⟩ := h
  exact ⟨es, clock, e.trans hb, r⟩
theorem MapAt.made (w : World) : MapAt ek (w.alloc (.map #[] 0)) w.heap.size (fun _ => none) :=
  ⟨#[], 0, (MapKept.heap_alloc w _).1, by simp, by simp, by simp⟩
theorem MapAt.alloc (h : MapAt ek w b f) (o : Obj) : MapAt ek (w.alloc o) b f := h.block (Below.heap_alloc w o b h.lt)
theorem MapAt.below {B : Nat} (h : MapAt ek w b f) (hb : Below B w w') (hB : b < B) : MapAt ek w' b f := h.block (hb.block b hB)
theorem MapAt.grown {row : Option Nat} (h : MapAt ek w b f) (hg : w.grownBy w' row) (hne : some b ≠ row) : MapAt ek w' b f := h.block (hg.block b h.lt hne)

/-- 'm[k]', 'v, ok := m[k]'. -/
theorem MapAt.look (h : MapAt ek w b f) (K : KeyOps P kt ek) {t e : TypeId} (ht : P.underlying t = some (.map kt e)) {z : Value} (hz : (zeroValue e).run P w = .ok z w) (x : κ) (c : Bool) :
    (Instr.lookup t (.map (some b)) (ek x) c).run P w = .ok (if c then .tuple #[(f x).getD z, .bool (f x).isSome] else (f x).getD z) w := by
  obtain ⟨es, clock, hb, hks, hp, hf⟩ := h
  rcases K.find w x es.toList hks with ⟨h1, h2⟩ | ⟨j, e0, h1, h2, h3⟩
  · have e1 : f x = none := by
      cases e : f x with
      | none => rfl
      | some v => obtain ⟨e0, he0, hk, _⟩ := (hf x v).1 e; exact absurd hk (h2 e0 he0)
    simp [Instr.lookup, run_underlying ht, MapKept.run_getObj_map hb, K.check w _ x, h1, hz, Result.andThen, e1]
  · have e1 : f x = some e0.val := (hf x e0.val).2 ⟨e0, List.mem_of_getElem? h2, h3, rfl⟩
    simp [Instr.lookup, run_underlying ht, MapKept.run_getObj_map hb, K.check w _ x, h1, Result.andThen, e1]

/-- 'm[k] = v'. -/
theorem MapAt.store (h : MapAt ek w b f) (K : KeyOps P kt ek) {t e : TypeId} (ht : P.underlying t = some (.map kt e)) (x : κ) (v : Value) :
    ∃ w', (Instr.mapUpdate t (.map (some b)) (ek x) v).run P w = .ok () w' ∧ (∀ g : κ → Option Value, g x = some v → (∀ y, y ≠ x → g y = f y) → MapAt ek w' b g) ∧ w.grownBy w' (some b) := by
  obtain ⟨es, clock, hb, hks, hp, hf⟩ := h
  have hgr : ∀ o : Obj, w.grownBy { w with heap := w.heap.setIfInBounds b o } (some b) := fun o =>
    ⟨rfl, rfl, rfl, by simp, fun i _ hi => by simp only [Array.getElem?_setIfInBounds]; rw [if_neg (fun e => hi (by rw [e]))]⟩
  have hset : ∀ o : Obj, (w.heap.setIfInBounds b o)[b]? = some o := fun o => by
    simp [Array.getElem?_setIfInBounds, (Array.getElem?_eq_some_iff.1 hb).1]
  rcases K.find w x es.toList hks with ⟨h1, h2⟩ | ⟨j, e0, h1, h2, h3⟩
  · refine ⟨_, by simp [Instr.mapUpdate, run_underlying ht, MapKept.run_getObj_map hb, K.check w _ x, h1, MapKept.run_setObj_map _ hb, Result.andThen], fun g hg1 hg2 => ⟨es.push ⟨ek x, v, clock⟩, clock + 1, hset _, ?_, ?_, ?_⟩, hgr _⟩
    · intro e1 he1
      simp only [Array.toList_push, List.mem_append, List.mem_singleton] at he1
      rcases he1 with he1 | rfl
      · exact hks e1 he1
      · exact ⟨x, rfl⟩
    · simp only [Array.toList_push]
      refine List.pairwise_append.2 ⟨hp, by simp, fun a ha b hb => ?_⟩
      rw [List.mem_singleton.1 hb]
      exact h2 a ha
    · intro y u
      simp only [Array.toList_push, List.mem_append, List.mem_singleton]
      constructor
      · intro hy
        rcases Classical.em (y = x) with rfl | hne
        · exact ⟨_, Or.inr rfl, rfl, by rw [hg1] at hy; injection hy⟩
        · rw [hg2 y hne] at hy
          obtain ⟨e1, he1, hk, hv⟩ := (hf y u).1 hy
          exact ⟨e1, Or.inl he1, hk, hv⟩
      · rintro ⟨e1, he1 | rfl, hk, hv⟩
        · have hne : y ≠ x := fun e => h2 e1 he1 (by rw [hk, e])
          rw [hg2 y hne]
          exact (hf y u).2 ⟨e1, he1, hk, hv⟩
        · obtain rfl := K.inj hk
          rw [hg1]
          exact congrArg some hv
  · have hjl : j < es.size := by simpa using (List.getElem?_eq_some_iff.1 h2).1
    have hje : es[j]? = some e0 := by simpa using h2
    have hst : (Instr.keyThatStays e0.key (ek x)).run P w = .ok (ek x) w := by rw [h3]; exact K.stays w x
    have hmod : (es.modify j fun e => { e with key := ek x, val := v }).toList = es.toList.set j { e0 with key := ek x, val := v } := by
      apply List.ext_getElem?
      intro i
      by_cases hij : j = i
      · subst hij
        have hj2 : es[j] = e0 := (Array.getElem?_eq_some_iff.1 hje).2
        simp [hjl, hj2]
      · simp [Array.getElem?_modify, List.getElem?_set, hij]
    have hmem : ∀ e1, e1 ∈ es.toList.set j { e0 with key := ek x, val := v } ↔ (e1 ∈ es.toList ∧ e1.key ≠ ek x) ∨ e1 = { e0 with key := ek x, val := v } := by
      intro e1
      constructor
      · intro hm
        obtain ⟨i, hi⟩ := List.mem_iff_getElem?.1 hm
        rw [List.getElem?_set] at hi
        by_cases hij : j = i
        · rw [if_pos hij] at hi
          split at hi
          · exact Or.inr (by injection hi with hi; exact hi.symm)
          · cases hi
        · rw [if_neg hij] at hi
          refine Or.inl ⟨List.mem_of_getElem? hi, fun e => ?_⟩
          have hil := (List.getElem?_eq_some_iff.1 hi).1
          have hpw := List.pairwise_iff_getElem.1 hp
          rcases Nat.lt_or_gt_of_ne hij with hlt | hlt
          · have := hpw j i (by simpa using hjl) hil hlt
            rw [(List.getElem?_eq_some_iff.1 hi).2, (List.getElem?_eq_some_iff.1 h2).2] at this
            exact this (by rw [h3, e])
          · have := hpw i j hil (by simpa using hjl) hlt
            rw [(List.getElem?_eq_some_iff.1 hi).2, (List.getElem?_eq_some_iff.1 h2).2] at this
            exact this (by rw [h3, e])
      · rintro (⟨hm, hne⟩ | rfl)
        · obtain ⟨i, hi⟩ := List.mem_iff_getElem?.1 hm
          have hij : j ≠ i := fun e => by
            subst e
            rw [h2] at hi
            injection hi with hi
            exact hne (by rw [← hi, h3])
          exact List.mem_of_getElem? (i := i) (by rw [List.getElem?_set, if_neg hij]; exact hi)
        · exact List.mem_of_getElem? (i := j) (by rw [List.getElem?_set, if_pos rfl, if_pos (by simpa using hjl)])
    refine ⟨{ w with heap := w.heap.setIfInBounds b (.map (es.modify j fun e => { e with key := ek x, val := v }) clock) }, by simp [Instr.mapUpdate, run_underlying ht, MapKept.run_getObj_map hb, K.check w _ x, h1, hje, hst, MapKept.run_setObj_map _ hb, Result.andThen], fun g hg1 hg2 => ⟨_, clock, hset _, ?_, ?_, ?_⟩, hgr _⟩
    · intro e1 he1
      rw [hmod] at he1
      rcases (hmem e1).1 he1 with ⟨he1, _⟩ | rfl
      · exact hks e1 he1
      · exact ⟨x, rfl⟩
    · rw [hmod]
      have : (es.toList.set j { e0 with key := ek x, val := v }).map (·.key) = es.toList.map (·.key) := by
        rw [List.map_set]
        apply List.ext_getElem?
        intro i
        rw [List.getElem?_set]
        by_cases hij : j = i
        · subst hij
          rw [if_pos rfl, if_pos (by simpa using hjl), List.getElem?_map, h2]
          simp [h3]
        · rw [if_neg hij]
      have hp' : (es.toList.map (·.key)).Pairwise (· ≠ ·) := List.pairwise_map.2 hp
      rw [← this] at hp'
      exact List.pairwise_map.1 hp'
    · intro y u
      rw [hmod]
      constructor
      · intro hy
        rcases Classical.em (y = x) with rfl | hne
        · exact ⟨_, (hmem _).2 (Or.inr rfl), rfl, by rw [hg1] at hy; injection hy⟩
        · rw [hg2 y hne] at hy
          obtain ⟨e1, he1, hk, hv⟩ := (hf y u).1 hy
          exact ⟨e1, (hmem _).2 (Or.inl ⟨he1, fun e => hne (K.inj (hk.symm.trans e))⟩), hk, hv⟩
      · rintro ⟨e1, he1, hk, hv⟩
        rcases (hmem e1).1 he1 with ⟨he1, hne⟩ | rfl
        · have hne' : y ≠ x := fun e => hne (by rw [hk, e])
          rw [hg2 y hne']
          exact (hf y u).2 ⟨e1, he1, hk, hv⟩
        · obtain rfl := K.inj hk
          rw [hg1]
          exact congrArg some hv
end

/-- 'm[k] = v' at the operation, for the walk. -/
theorem wpList_store_at {κ : Type} {ek : κ → Value} {P : Program} (w : World) {ops : Array Oper} {rest : List Oper} {o : Oper} {a : Act} {Q : Exit → Act → World → Prop}
    (hg : o.guard = none) (m x v : Operand) (t : TypeId) (hop : o.op = Op.mapUpdate t m x v) (kt e : TypeId) (K : KeyOps P kt ek) (ht : P.underlying t = some (.map kt e)) (b : Nat) (f : κ → Option Value)
    (hm : a.eval m = .map (some b)) (h : MapAt ek w b f) (x0 : κ) (val : Value) (hx : a.eval x = ek x0) (hv : a.eval v = val)
    (hK : ∀ w', (∀ g : κ → Option Value, g x0 = some val → (∀ y, y ≠ x0 → g y = f y) → MapAt ek w' b g) → w.grownBy w' (some b) → wpList P ops Q rest (a.put o.dst undef) w') :
    wpList P ops Q (o :: rest) a w := by
  refine wpList_plain hg fun K' hK' => ?_
  obtain ⟨w', hrun, r1, r2⟩ := h.store K ht x0 val
  unfold Oper.wp
  simp [execOp, hop, hm, hx, hv, hrun, Result.andThen]
  exact hK' _ _ (hK w' r1 r2)

/-- A set: a map to bools. -/
def SetAt {κ : Type} (ek : κ → Value) (w : World) (b : Nat) (h : κ → Bool) : Prop := ∃ f, MapAt ek w b f ∧ ∀ x, (f x).getD (.bool false) = .bool (h x)
section
variable {κ : Type} {ek : κ → Value} {w w' : World} {b : Nat} {h : κ → Bool} {P : Program} {kt : TypeId}
theorem SetAt.lt (s : SetAt ek w b h) : b < w.heap.size := by obtain ⟨f, hf, _⟩ := s; exact hf.lt
theorem SetAt.block (s : SetAt ek w b h) (e : w'.heap[b]? = w.heap[b]?) : SetAt ek w' b h := by obtain ⟨f, hf, r⟩ := s; exact ⟨f, hf.block e, r⟩
theorem SetAt.made (w : World) : SetAt ek (w.alloc (.map #[] 0)) w.heap.size (fun _ => false) := ⟨_, MapAt.made w, fun _ => rfl⟩
theorem SetAt.alloc (s : SetAt ek w b h) (o : Obj) : SetAt ek (w.alloc o) b h := s.block (Below.heap_alloc w o b s.lt)
theorem SetAt.grown {row : Option Nat} (s : SetAt ek w b h) (hg : w.grownBy w' row) (hne : some b ≠ row) : SetAt ek w' b h := s.block (hg.block b s.lt hne)
theorem SetAt.look (s : SetAt ek w b h) (K : KeyOps P kt ek) {t e : TypeId} (ht : P.underlying t = some (.map kt e)) (hz : (zeroValue e).run P w = .ok (.bool false) w) (x : κ) :
    (Instr.lookup t (.map (some b)) (ek x) false).run P w = .ok (.bool (h x)) w := by
  obtain ⟨f, hf, r⟩ := s
  rw [hf.look K ht hz x false, ← r x]
  rfl
theorem SetAt.put [DecidableEq κ] {f : κ → Option Value} (hf : MapAt ek w b f) (r : ∀ x, (f x).getD (.bool false) = .bool (h x)) {x0 : κ} {val : Bool}
    (hs : ∀ g : κ → Option Value, g x0 = some (.bool val) → (∀ y, y ≠ x0 → g y = f y) → MapAt ek w' b g) : SetAt ek w' b (fun y => if y = x0 then val else h y) := by
  refine ⟨fun y => if y = x0 then some (.bool val) else f y, hs _ (by simp) (fun y hy => by simp [hy]), fun y => ?_⟩
  by_cases e : y = x0
  · simp [e]
  · simp [e, r y]
end

/-- 'm[k] = v' in a set, at the operation. -/
theorem wpList_put_set {κ : Type} [DecidableEq κ] {ek : κ → Value} {P : Program} (w : World) {ops : Array Oper} {rest : List Oper} {o : Oper} {a : Act} {Q : Exit → Act → World → Prop}
    (hg : o.guard = none) (m x v : Operand) (t : TypeId) (hop : o.op = Op.mapUpdate t m x v) (kt e : TypeId) (K : KeyOps P kt ek) (ht : P.underlying t = some (.map kt e)) (b : Nat) (h : κ → Bool)
    (hm : a.eval m = .map (some b)) (s : SetAt ek w b h) (x0 : κ) (val : Bool) (hx : a.eval x = ek x0) (hv : a.eval v = .bool val)
    (hK : ∀ w', SetAt ek w' b (fun y => if y = x0 then val else h y) → w.grownBy w' (some b) → wpList P ops Q rest (a.put o.dst undef) w') :
    wpList P ops Q (o :: rest) a w := by
  obtain ⟨f, hf, r⟩ := s
  exact wpList_store_at w hg m x v t hop kt e K ht b f hm hf x0 (.bool val) hx hv fun w' hs hgr => hK w' (SetAt.put hf r hs) hgr

end Go.Proofs.Ytgnahjadjgjecaa
