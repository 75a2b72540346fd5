/-
  Operations whose order is open: the evaluator's facts.
-/
import Derived.Test.YtnnclgadfbaldaaGreatDoorAvA
import Derived.Test.YtnnclgadfbaldaaGreatDoorAvB
namespace Go.Av

mutual
theorem AV.same_eq : ∀ (a b : AV), AV.same a b = true → a = b
  | .undef, b, h => by cases b <;> simp [AV.same] at h <;> rfl
  | .bool a, b, h => by cases b <;> simp [AV.same] at h; simp [h]
  | .int k a, b, h => by cases b <;> simp [AV.same] at h; simp [h]
  | .str a, b, h => by cases b <;> simp [AV.same] at h; simp [h]
  | .nilptr, b, h => by cases b <;> simp [AV.same] at h <;> rfl
  | .mptr a c, b, h => by cases b <;> simp [AV.same] at h; simp [h]
  | .eptr a c d e, b, h => by cases b <;> simp [AV.same] at h; simp [h]
  | .iptr a c, b, h => by
    cases b <;> simp [AV.same] at h
    rename_i cs o
    rw [sameAll_eq a cs h.1, h.2]
  | .nilslice, b, h => by cases b <;> simp [AV.same] at h <;> rfl
  | .slice a c, b, h => by
    cases b <;> simp [AV.same] at h
    rename_i x es
    rw [sameAll_eq c es h.2, h.1]
  | .mslice a c d, b, h => by cases b <;> simp [AV.same] at h; simp [h]
  | .agg a, b, h => by
    cases b <;> simp [AV.same] at h
    rename_i cs
    rw [sameAll_eq a cs h]
  | .tuple a, b, h => by
    cases b <;> simp [AV.same] at h
    rename_i cs
    rw [sameAll_eq a cs h]
  | .nilfunc, b, h => by cases b <;> simp [AV.same] at h <;> rfl
  | .func a c, b, h => by
    cases b <;> simp [AV.same] at h
    rename_i f cs
    rw [sameAll_eq c cs h.2, h.1]
  | .nilmap, b, h => by cases b <;> simp [AV.same] at h <;> rfl
  | .map a, b, h => by cases b <;> simp [AV.same] at h; simp [h]
  | .iter a, b, h => by cases b <;> simp [AV.same] at h; simp [h]
  | .nilif, b, h => by cases b <;> simp [AV.same] at h <;> rfl
theorem sameAll_eq : ∀ (a b : List AV), sameAll a b = true → a = b
  | [], b, h => by cases b <;> simp [sameAll] at h <;> rfl
  | x :: r, b, h => by
    cases b <;> simp [sameAll] at h
    rename_i y q
    rw [AV.same_eq x y h.1, sameAll_eq r q h.2]
end

mutual
theorem AV.same_refl : ∀ (a : AV), AV.same a a = true
  | .undef => rfl
  | .bool a => by simp [AV.same]
  | .int k a => by simp [AV.same]
  | .str a => by simp [AV.same]
  | .nilptr => rfl
  | .mptr a c => by simp [AV.same]
  | .eptr a c d e => by simp [AV.same]
  | .iptr a c => by simp [AV.same, sameAll_refl a]
  | .nilslice => rfl
  | .slice a c => by simp [AV.same, sameAll_refl c]
  | .mslice a c d => by simp [AV.same]
  | .agg a => by simp [AV.same, sameAll_refl a]
  | .tuple a => by simp [AV.same, sameAll_refl a]
  | .nilfunc => rfl
  | .func a c => by simp [AV.same, sameAll_refl c]
  | .nilmap => rfl
  | .map a => by simp [AV.same]
  | .iter a => by simp [AV.same]
  | .nilif => rfl
theorem sameAll_refl : ∀ (a : List AV), sameAll a a = true
  | [] => rfl
  | x :: r => by simp [sameAll, AV.same_refl x, sameAll_refl r]
end

theorem sameMap_eq : ∀ (a b : List (AV × AV)), sameMap a b = true → a = b
  | [], b, h => by cases b <;> simp [sameMap] at h <;> rfl
  | x :: r, b, h => by
    cases b <;> simp [sameMap] at h
    rename_i y q
    obtain ⟨⟨h1, h2⟩, h3⟩ := h
    rw [sameMap_eq r q h3, show x = y from Prod.ext (AV.same_eq _ _ h1) (AV.same_eq _ _ h2)]

theorem sameMap_refl : ∀ (a : List (AV × AV)), sameMap a a = true
  | [] => rfl
  | x :: r => by simp [sameMap, AV.same_refl, sameMap_refl r]

theorem Blk.same_eq (a b : Blk) (h : Blk.same a b = true) : a = b := by
  cases a <;> cases b <;> simp [Blk.same] at h
  · rw [h.1, sameAll_eq _ _ h.2]
  · obtain ⟨⟨h1, h2⟩, h3⟩ := h; rw [h1, h2, sameAll_eq _ _ h3]
  · rw [h.1, sameAll_eq _ _ h.2]
  · rw [h.1, h.2]
  · rw [h.1, sameMap_eq _ _ h.2]

theorem Blk.same_refl (a : Blk) : Blk.same a a = true := by
  cases a <;> simp [Blk.same, sameAll_refl, sameMap_refl]

theorem sameH_eq : ∀ (a b : List Blk), sameH a b = true → a = b
  | [], b, h => by cases b <;> simp [sameH] at h <;> rfl
  | x :: r, b, h => by
    cases b <;> simp [sameH] at h
    rename_i y q
    rw [Blk.same_eq x y h.1, sameH_eq r q h.2]

theorem sameH_refl : ∀ (a : List Blk), sameH a a = true
  | [] => rfl
  | x :: r => by simp [sameH, Blk.same_refl, sameH_refl r]

section
variable (G : Nat → Option (List AV))

theorem Opd.get_congr {x : Opd} {fr fr' : List (Nat × AV)} (h : ∀ t ∈ x.reads, fget fr t = fget fr' t) : x.get G fr = x.get G fr' := by
  cases x with
  | t n => simpa [Opd.get, Opd.reads] using h n (by simp [Opd.reads])
  | c v => rfl
  | g n => rfl

theorem oget_congr {x : Option Opd} {fr fr' : List (Nat × AV)} (h : ∀ t ∈ oreads x, fget fr t = fget fr' t) : oget G fr x = oget G fr' x := by
  cases x with
  | none => rfl
  | some x => simp only [oget]; rw [Opd.get_congr G h]

theorem getAll_congr {fr fr' : List (Nat × AV)} : ∀ (l : List Opd), (∀ t ∈ readsAll l, fget fr t = fget fr' t) → getAll G fr l = getAll G fr' l
  | [], _ => rfl
  | x :: r, h => by
    have h1 := Opd.get_congr G (x := x) (fr := fr) (fr' := fr') fun t ht => h t (by simp [readsAll, ht])
    have h2 := getAll_congr r fun t ht => h t (by simp [readsAll, ht])
    simp only [getAll, List.map_cons] at h2 ⊢
    rw [h1, h2]

theorem fillAV_congr {fr fr' : List (Nat × AV)} : ∀ (l : List (Nat × Nat × Opd)) (cs : List AV), (∀ t ∈ readsAll (l.map (·.2.2)), fget fr t = fget fr' t) → fillAV G fr cs l = fillAV G fr' cs l
  | [], _, _ => rfl
  | (off, s, x) :: r, cs, h => by
    have h1 := Opd.get_congr G (x := x) (fr := fr) (fr' := fr') fun t ht => h t (by simp [readsAll, ht])
    have h2 := fun cs => fillAV_congr r cs fun t ht => h t (by simp [readsAll, ht])
    simp only [fillAV, h1, h2]

theorem fillEs_congr {fr fr' : List (Nat × AV)} {s : Nat} : ∀ (l : List (Nat × Opd)) (es : List AV), (∀ t ∈ readsAll (l.map (·.2)), fget fr t = fget fr' t) → fillEs G fr s es l = fillEs G fr' s es l
  | [], _, _ => rfl
  | (i, x) :: r, es, h => by
    have h1 := Opd.get_congr G (x := x) (fr := fr) (fr' := fr') fun t ht => h t (by simp [readsAll, ht])
    have h2 := fun es => fillEs_congr (s := s) r es fun t ht => h t (by simp [readsAll, ht])
    simp only [fillEs, h1, h2]

/-- An operation looks at its own temporaries alone. -/
theorem stepOp_congr {cf : CallF} {st st' : St} (hb : st.base = st'.base) (he : st.esc = st'.esc) (hh : st.h = st'.h) (o : MOp) (h : ∀ t ∈ o.reads, fget st.fr t = fget st'.fr t) : stepOp G cf st o = stepOp G cf st' o := by
  obtain ⟨fr, b, e, H⟩ := st
  obtain ⟨fr', b', e', H'⟩ := st'
  simp only at hb he hh
  subst hb; subst he; subst hh
  cases o <;> simp only [MOp.reads, List.mem_append] at h <;> simp only [stepOp]
  case mv x => rw [Opd.get_congr G h]
  case pick c a b => rw [Opd.get_congr G (x := c) fun t ht => h t (.inl ht), Opd.get_congr G (x := a) fun t ht => h t (.inr (.inl ht)), Opd.get_congr G (x := b) fun t ht => h t (.inr (.inr ht))]
  case box ty x => rw [Opd.get_congr G h]
  case build z ps => rw [fillAV_congr G ps z h]
  case mkSlice s z n ps => rw [fillEs_congr G ps _ h]
  case mkSliceM ty s z n ps => rw [fillEs_congr G ps _ h]
  case load s a => rw [Opd.get_congr G h]
  case store s a x =>
    rw [Opd.get_congr G (x := a) fun t ht => h t (.inl ht), Opd.get_congr G (x := x) fun t ht => h t (.inr ht)]
    rfl
  case nilCheck x => rw [Opd.get_congr G h]
  case bin op x y => rw [Opd.get_congr G (x := x) fun t ht => h t (.inl ht), Opd.get_congr G (x := y) fun t ht => h t (.inr ht)]
  case eqp neg k x y => rw [Opd.get_congr G (x := x) fun t ht => h t (.inl ht), Opd.get_congr G (x := y) fun t ht => h t (.inr ht)]
  case un op x => rw [Opd.get_congr G h]
  case conv k x => rw [Opd.get_congr G h]
  case fieldA x off => rw [Opd.get_congr G h]
  case field x off s => rw [Opd.get_congr G h]
  case idxA s x i => rw [Opd.get_congr G (x := x) fun t ht => h t (.inl ht), Opd.get_congr G (x := i) fun t ht => h t (.inr ht)]
  case idxArrA n s x i => rw [Opd.get_congr G (x := x) fun t ht => h t (.inl ht), Opd.get_congr G (x := i) fun t ht => h t (.inr ht)]
  case idxStr x i => rw [Opd.get_congr G (x := x) fun t ht => h t (.inl ht), Opd.get_congr G (x := i) fun t ht => h t (.inr ht)]
  case idxArr n s a x i => rw [Opd.get_congr G (x := x) fun t ht => h t (.inl ht), Opd.get_congr G (x := i) fun t ht => h t (.inr ht)]
  case sliceStr x lo hi => rw [Opd.get_congr G (x := x) fun t ht => h t (.inl ht), oget_congr G (x := lo) fun t ht => h t (.inr (.inl ht)), oget_congr G (x := hi) fun t ht => h t (.inr (.inr ht))]
  case slice s x lo hi mx => rw [Opd.get_congr G (x := x) fun t ht => h t (.inl ht), oget_congr G (x := lo) fun t ht => h t (.inr (.inl ht)), oget_congr G (x := hi) fun t ht => h t (.inr (.inr (.inl ht))), oget_congr G (x := mx) fun t ht => h t (.inr (.inr (.inr ht)))]
  case rangeStr x => rw [Opd.get_congr G h]
  case nextStr x => rw [Opd.get_congr G h]
  case extract x i => rw [Opd.get_congr G h]
  case func f cap => rw [getAll_congr G cap h]
  case call f args =>
    rw [Opd.get_congr G (x := f) fun t ht => h t (.inl ht), getAll_congr G args fun t ht => h t (.inr ht)]
    rfl
  case lenS x => rw [Opd.get_congr G h]
  case lenL x => rw [Opd.get_congr G h]
  case append ty s n x y =>
    rw [Opd.get_congr G (x := x) fun t ht => h t (.inl ht), Opd.get_congr G (x := y) fun t ht => h t (.inr ht)]
    have hg : ∀ ty s bytes h ys x, growAV ⟨fr, b, e, H⟩ ty s bytes h ys x = growAV ⟨fr', b, e, H⟩ ty s bytes h ys x := fun _ _ _ _ _ x => by cases x <;> rfl
    simp only [appendAV, hg]
  case insert kd x k v =>
    rw [Opd.get_congr G (x := x) fun t ht => h t (.inl ht), Opd.get_congr G (x := k) fun t ht => h t (.inr (.inl ht)), Opd.get_congr G (x := v) fun t ht => h t (.inr (.inr ht))]
    rfl
  case lookup kd z ok x i => rw [Opd.get_congr G (x := x) fun t ht => h t (.inl ht), Opd.get_congr G (x := i) fun t ht => h t (.inr ht)]
  case minmax m x y => rw [Opd.get_congr G (x := x) fun t ht => h t (.inl ht), Opd.get_congr G (x := y) fun t ht => h t (.inr ht)]

theorem stepI_congr {cf : CallF} {st st' : St} (hb : st.base = st'.base) (he : st.esc = st'.esc) (hh : st.h = st'.h) (i : MInstr) (h : ∀ t ∈ i.reads, fget st.fr t = fget st'.fr t) : stepI G cf st i = stepI G cf st' i := by
  simp only [stepI]
  simp only [MInstr.reads] at h
  cases hg : i.guard with
  | none =>
    rw [hg] at h
    exact stepOp_congr G hb he hh i.op h
  | some p =>
    obtain ⟨t, want⟩ := p
    rw [hg] at h
    simp only [List.mem_cons] at h
    simp only [h t (.inl rfl), hh]
    cases hx : fget st'.fr t <;> try rfl
    simp only
    split
    · exact stepOp_congr G hb he hh i.op fun u hu => h u (.inr hu)
    · rfl
end
end Go.Av

/-
  The evaluator's operations do what the model's do: maps whose keys are strings or integers.
-/
namespace Go.Av
section
variable {G : Nat → Option (List AV)} {base : Nat} {esc : Option (List Nat)} {ρ ρ' : Nat → Option Nat} {H H' : List Blk} {w w' : World} {P : Program}

def kdDesc : Option IntKind → TypeDesc
  | none => .string
  | some k => .int k

theorem kdT_inv {t : TypeId} {kd : Option IntKind} {e : TypeId} (h : kdT P t = some (kd, e)) : ∃ k, P.underlying t = some (.map k e) ∧ P.underlying k = some (kdDesc kd) := by
  simp only [kdT, Option.bind_eq_some_iff] at h
  obtain ⟨d, hd, h⟩ := h
  split at h
  · rename_i k e'
    simp only [Option.bind_eq_some_iff] at h
    obtain ⟨u, hu, h⟩ := h
    split at h
    · cases h; exact ⟨k, hd, hu⟩
    · cases h; exact ⟨k, hd, hu⟩
    · cases h
  · cases h

theorem keyOk_rel {kd : Option IntKind} {k : AV} {v : Value} {I : Nat → Prop} {R : AV → Value → Prop} (hk : keyOk kd k = true) (hr : Rel I R w k v) : keyRel kd k v := by
  cases k <;> simp [keyOk] at hk
  · rename_i ik n
    subst hk
    exact ⟨rfl, hr.int_inv⟩
  · subst hk
    obtain ⟨S, hS, hl⟩ := hr.str_inv
    exact ⟨rfl, S, hS, hl⟩

theorem bytes_ext {a b : ByteArray} (h : a.data.toList = b.data.toList) : a = b := by
  obtain ⟨a⟩ := a
  obtain ⟨b⟩ := b
  simp at h
  rw [h]

theorem keyRel_inj {kd : Option IntKind} {a b : AV} {v : Value} (h1 : keyRel kd a v) (h2 : keyRel kd b v) : a = b := by
  cases a <;> cases b <;> simp [keyRel] at h1 h2
  · obtain ⟨_, rfl⟩ := h1
    obtain ⟨_, h⟩ := h2
    cases h; rfl
  · obtain ⟨_, rfl⟩ := h1
    obtain ⟨_, S, h, _⟩ := h2
    cases h
  · obtain ⟨_, S, h, _⟩ := h1
    obtain ⟨_, rfl⟩ := h2
    cases h
  · obtain ⟨_, S, rfl, rfl⟩ := h1
    obtain ⟨_, T, h, rfl⟩ := h2
    cases h; rfl

theorem keyRel_fun {kd : Option IntKind} {a : AV} {v u : Value} (h1 : keyRel kd a v) (h2 : keyRel kd a u) : v = u := by
  cases a <;> simp [keyRel] at h1 h2
  · rw [h1.2, h2.2]
  · obtain ⟨_, S, rfl, hS⟩ := h1
    obtain ⟨_, T, rfl, hT⟩ := h2
    rw [bytes_ext (hS.trans hT.symm)]

theorem sameNow_rel {kd : Option IntKind} {a b : AV} {v u : Value} (h1 : keyRel kd a v) (h2 : keyRel kd b u) : ∃ c, Instr.sameNow (kdDesc kd) v u = some c ∧ (c = true ↔ v = u) := by
  cases a <;> cases b <;> simp [keyRel] at h1 h2
  · obtain ⟨rfl, rfl⟩ := h1
    obtain ⟨h, rfl⟩ := h2
    cases h
    simp [kdDesc, Instr.sameNow]
  · obtain ⟨rfl, rfl⟩ := h1
    cases h2.1
  · obtain ⟨rfl, _⟩ := h1
    cases h2.1
  · obtain ⟨rfl, S, rfl, _⟩ := h1
    obtain ⟨_, T, rfl, _⟩ := h2
    simp only [kdDesc, Instr.sameNow]
    refine ⟨_, rfl, ?_⟩
    simp only [Value.string.injEq]
    obtain ⟨S⟩ := S
    obtain ⟨T⟩ := T
    have : (ByteArray.mk S == ByteArray.mk T) = (S == T) := rfl
    rw [this]
    simp

theorem findNow_spec {kd : Option IntKind} {ka : AV} {kv : Value} (hk : keyRel kd ka kv) : ∀ (es : List MapEntry) (n : Nat), (∀ e ∈ es, ∃ a, keyRel kd a e.key) →
    (∃ (i : Nat) (e : MapEntry), es[i]? = some e ∧ e.key = kv ∧ Instr.findNow (kdDesc kd) kv es n = some (some (n + i, e.val))) ∨ ((∀ e ∈ es, e.key ≠ kv) ∧ Instr.findNow (kdDesc kd) kv es n = some none) := by
  intro es
  induction es with
  | nil => intro n _; exact .inr ⟨fun e h => (by cases h), rfl⟩
  | cons e r ih =>
    intro n h
    obtain ⟨a, ha⟩ := h e (List.mem_cons_self ..)
    obtain ⟨c, hs, hc⟩ := sameNow_rel hk ha
    by_cases he : kv = e.key
    · rw [hc.2 he] at hs
      refine .inl ⟨0, e, rfl, he.symm, ?_⟩
      simp only [Instr.findNow, hs]
      rfl
    · have hcf : c = false := by
        cases c with
        | false => rfl
        | true => exact absurd (hc.1 rfl) he
      rw [hcf] at hs
      rcases ih (n + 1) fun e he => h e (List.mem_cons_of_mem _ he) with ⟨i, d, h1, h2, h3⟩ | ⟨h1, h2⟩
      · refine .inl ⟨i + 1, d, h1, h2, ?_⟩
        simp only [Instr.findNow, hs]
        rw [h3]
        simp [Nat.add_assoc, Nat.add_comm 1 i]
      · refine .inr ⟨fun d hd => ?_, ?_⟩
        · rcases List.mem_cons.1 hd with rfl | hd
          · exact fun e => he e.symm
          · exact h1 d hd
        · simp only [Instr.findNow, hs]
          exact h2

theorem same_iff (a b : AV) : AV.same a b = true ↔ a = b := ⟨AV.same_eq a b, fun h => h ▸ AV.same_refl a⟩

theorem mfind_some {k x : AV} : ∀ {m : List (AV × AV)}, mfind k m = some x → (k, x) ∈ m := by
  intro m
  induction m with
  | nil => intro h; cases h
  | cons p r ih =>
    intro h
    simp only [mfind] at h
    split at h
    · rename_i hs
      cases h
      have := AV.same_eq _ _ hs
      rw [← this]
      exact List.mem_cons_self ..
    · exact List.mem_cons_of_mem _ (ih h)

theorem mfind_none {k : AV} : ∀ {m : List (AV × AV)}, mfind k m = none → ∀ p ∈ m, p.1 ≠ k := by
  intro m
  induction m with
  | nil => intro _ p h; cases h
  | cons p r ih =>
    intro h q hq
    simp only [mfind] at h
    split at h
    · cases h
    · rename_i hs
      rcases List.mem_cons.1 hq with rfl | hq
      · intro e; exact hs ((same_iff _ _).2 e)
      · exact ih h q hq

theorem mem_mins {k v : AV} {p : AV × AV} : ∀ {m : List (AV × AV)}, p ∈ mins k v m ↔ p = (k, v) ∨ p ∈ m := by
  intro m
  induction m with
  | nil => simp [mins]
  | cons q r ih =>
    simp only [mins]
    split
    · simp
    · simp only [List.mem_cons, ih]
      exact ⟨fun h => by rcases h with h | h | h <;> simp [h], fun h => by rcases h with h | h | h <;> simp [h]⟩

theorem mem_mset {k v : AV} {p : AV × AV} : ∀ {m : List (AV × AV)}, p ∈ mset k v m ↔ ∃ q ∈ m, p = if AV.same q.1 k = true then (q.1, v) else q := by
  intro m
  induction m with
  | nil => simp [mset]
  | cons q r ih =>
    simp only [mset, List.mem_cons, ih]
    exact ⟨fun h => by rcases h with h | ⟨x, hx, h⟩; exact ⟨q, .inl rfl, h⟩; exact ⟨x, .inr hx, h⟩, fun ⟨x, hx, h⟩ => by rcases hx with rfl | hx; exact .inl h; exact .inr ⟨x, hx, h⟩⟩

theorem MapRel.find {kd : Option IntKind} {R : AV → Value → Prop} {m : List (AV × AV)} {es : List MapEntry} (h : MapRel kd R m es) {ka : AV} {kv : Value} (hk : keyRel kd ka kv) :
    (∃ x i e, mfind ka m = some x ∧ es[i]? = some e ∧ e.key = kv ∧ R x e.val ∧ Instr.findNow (kdDesc kd) kv es 0 = some (some (i, e.val))) ∨ (mfind ka m = none ∧ (∀ e ∈ es, e.key ≠ kv) ∧ Instr.findNow (kdDesc kd) kv es 0 = some none) := by
  rcases findNow_spec hk es 0 (fun e he => by obtain ⟨p, _, h1, _⟩ := h.to e he; exact ⟨_, h1⟩) with ⟨i, e, h1, h2, h3⟩ | ⟨h1, h2⟩
  · obtain ⟨p, hp, k1, k2⟩ := h.to e (List.mem_of_getElem? h1)
    rw [h2] at k1
    have hpk := keyRel_inj k1 hk
    cases hf : mfind ka m with
    | none => exact absurd hpk (mfind_none hf p hp)
    | some x =>
      have hx := mfind_some hf
      have := h.once p hp (ka, x) hx hpk
      subst this
      exact .inl ⟨x, i, e, rfl, h1, h2, k2, by simpa using h3⟩
  · refine .inr ⟨?_, h1, h2⟩
    cases hf : mfind ka m with
    | none => rfl
    | some x =>
      obtain ⟨e, he, k1, k2⟩ := h.fro _ (mfind_some hf)
      exact absurd (keyRel_fun k1 hk) (h1 e he)

theorem checkKey_run {kd : Option IntKind} {k : TypeId} (hk : P.underlying k = some (kdDesc kd)) (b : Bool) (n : Nat) (v : Value) : (Instr.checkKey b (n + 1) k v).run P w = .ok () w := by
  cases kd <;> simp only [Instr.checkKey, Sem.run_bind, run_underlying hk, Result.andThen_ok, kdDesc] <;> cases v <;> rfl

theorem findKey_run {kd : Option IntKind} {k : TypeId} (hk : P.underlying k = some (kdDesc kd)) {v : Value} {es : List MapEntry} {r : Option (Nat × Value)} (h : Instr.findNow (kdDesc kd) v es 0 = some r) : (Instr.findKey k v es).run P w = .ok r w := by
  simp only [Instr.findKey, Sem.run_bind, run_underlying hk, Result.andThen_ok, h, Sem.run_pure]

theorem zeroA_rel {t : TypeId} {z : AV} (h : zeroA P t = some z) : ∃ v, (zeroValue t).run P w = .ok v w ∧ RelH ρ H w z v ∧ z.top = 0 := by
  simp only [zeroA, Option.bind_eq_some_iff] at h
  obtain ⟨inf, hi, zv, hz, h⟩ := h
  obtain ⟨h1, h2⟩ := toAV_rel (ρ := ρ) (w := w) h
  exact ⟨zv, by simp [zeroValue, typeInfo, hi, hz], h1.of0, h2⟩

theorem ref_map {b : Nat} {kd kd' : Option IntKind} {m m' : List (AV × AV)} (hm : H[b]? = some (.map kd m)) (hget : H'[b]? = some (.map kd' m')) (hρ : ρ' b = ρ b) :
    ∀ a v, a.isRef = true → a.blk = b → RefRel ρ H w a v → RefRel ρ' H' w' a v := by
  intro a v ha hb hr
  cases a with
  | mptr b' o' => simp [AV.blk] at hb; subst hb; intro ty'' cs'' h; rw [hget] at h; simp at h
  | eptr b' => simp [AV.blk] at hb; subst hb; intro g s es hes; rw [hget] at hes; simp at hes
  | mslice b' =>
    simp [AV.blk] at hb; subst hb
    refine ⟨fun g s es hes => ?_, fun s es hes => ?_⟩
    · rw [hget] at hes; simp at hes
    · rw [hget] at hes; simp at hes
  | map b' => simp [AV.blk] at hb; subst hb; intro kd m _; rw [hρ]; exact hr _ _ hm
  | iter b' => simp [AV.blk] at hb; subst hb; intro m p hm; rw [hget] at hm; simp at hm
  | _ => simp [AV.isRef] at ha

theorem makeMap_sound (hs : Sim G ρ H w) (hb : base ≤ H.length) {t : TypeId} {kd : Option IntKind} : ∃ ρ' w' u, (Instr.makeMap t none).run P w = .ok u w' ∧ Sim G ρ' (H ++ [.map kd []]) w' ∧ Step base esc ρ H w ρ' (H ++ [.map kd []]) w' ∧
    RelH ρ' (H ++ [.map kd []]) w' (.map H.length) u := by
  have hst := step_push (base := base) (esc := esc) hs hb (.map kd []) (.map #[] 0) (w' := { w with heap := w.heap.push (.map #[] 0) }) rfl rfl rfl rfl
  refine ⟨_, { w with heap := w.heap.push (.map #[] 0) }, .map (some w.heap.size), ?_, sim_push hs (.map kd []) (.map #[] 0) rfl rfl rfl rfl ?_ (by show max _ _ ≤ _; simp [topAll]), hst, .ref _ _ rfl rfl fun kd' m h => ?_⟩
  · simp [Instr.makeMap]
  · exact ⟨w.heap.size, #[], 0, by simp, by simp, fun e h => (by cases h), fun p h => (by cases h), fun p h => (by cases h), fun i j d e h => (by simp at h)⟩
  · exact ⟨w.heap.size, by simp, rfl⟩

theorem lookup_sound (hs : Sim G ρ H w) {t : TypeId} {kd : Option IntKind} {e : TypeId} {z : AV} (ht : kdT P t = some (kd, e)) (hz : zeroA P e = some z) {ok : Bool} {x i r : AV} {vx vi : Value} (hx : RelH ρ H w x vx) (hi : RelH ρ H w i vi)
    (h : lookupAV H kd z ok x i = some r) : ∃ u, (Instr.lookup t vx vi ok).run P w = .ok u w ∧ RelH ρ H w r u ∧ r.top ≤ H.length := by
  obtain ⟨k, h1, h2⟩ := kdT_inv ht
  obtain ⟨zv, z1, z2, z3⟩ := zeroA_rel (ρ := ρ) (H := H) (w := w) hz
  have okT : ∀ (v : AV) (u : Value) (b : Bool), RelH ρ H w v u → RelH ρ H w (okTuple ok v b) (if ok then .tuple #[u, .bool b] else u) := by
    intro v u b hr
    cases ok with
    | false => exact hr
    | true =>
      refine Rel.tuple (I := Imm ρ) (R := RefRel ρ H w) (w := w) [v, .bool b] #[u, .bool b] rfl fun i c y hc hy => ?_
      match i with
      | 0 => simp at hc hy; subst hc; subst hy; exact hr
      | 1 => simp at hc hy; subst hc; subst hy; exact .bool _
      | n + 2 => simp at hc
  have okTop : ∀ (v : AV) (b : Bool), (okTuple ok v b).top = v.top := by
    intro v b
    cases ok <;> simp [okTuple, AV.top, topAll]
  simp only [lookupAV] at h
  split at h
  · rename_i hk
    have hkr := keyOk_rel hk hi
    split at h
    · cases h
      have hv := hx.nilmap_inv
      subst hv
      refine ⟨_, ?_, okT z zv false z2, by rw [okTop]; omega⟩
      simp only [Instr.lookup, Sem.run_bind, run_underlying h1, Result.andThen_ok, Sem.run_pure]
      rw [checkKey_run h2]
      simp only [Result.andThen_ok, findKey_run h2 (v := vi) (es := (#[] : Array MapEntry).toList) (r := none) rfl, Sem.run_bind, z1, Sem.run_pure]
    · rename_i b
      split at h
      · rename_i kd' m hm
        split at h
        · rename_i hkd
          subst hkd
          obtain ⟨β, hρ, rfl⟩ := (hx.ref_inv rfl).1 _ _ hm
          obtain ⟨β', es, c, b1, b2, b3⟩ := hs.blk b _ hm
          rw [hρ] at b1; cases b1
          have htop := hs.tops b _ (lt_of_get hm) hm
          have hget : (getObj β).run P w = .ok (.map es c) w := by simp [getObj, Sem.run, b2]
          rcases b3.find hkr with ⟨x, i, e', f1, f2, f3, f4, f5⟩ | ⟨f1, f2, f3⟩
          · rw [f1] at h
            cases h
            refine ⟨_, ?_, okT x e'.val true f4, by rw [okTop]; exact Nat.le_trans (top_map (mfind_some f1)) htop⟩
            simp only [Instr.lookup, Sem.run_bind, run_underlying h1, Result.andThen_ok, Sem.run_pure, hget]
            rw [checkKey_run h2]
            simp only [Result.andThen_ok, findKey_run h2 f5, Sem.run_bind, Sem.run_pure]
          · rw [f1] at h
            cases h
            refine ⟨_, ?_, okT z zv false z2, by rw [okTop]; omega⟩
            simp only [Instr.lookup, Sem.run_bind, run_underlying h1, Result.andThen_ok, Sem.run_pure, hget]
            rw [checkKey_run h2]
            simp only [Result.andThen_ok, findKey_run h2 f3, Sem.run_bind, z1, Sem.run_pure]
        · cases h
      · cases h
    · cases h
  · cases h

theorem sameBits_key {kd : Option IntKind} {k : AV} {v : Value} (h : keyRel kd k v) (n : Nat) : Instr.sameBits n v v = true := by
  cases k <;> simp [keyRel] at h
  · rw [h.2]; simp [Instr.sameBits]
  · obtain ⟨_, S, rfl, _⟩ := h
    simp only [Instr.sameBits]
    obtain ⟨S⟩ := S
    have : (ByteArray.mk S == ByteArray.mk S) = (S == S) := rfl
    rw [this]
    simp

theorem mput_rel {kd : Option IntKind} {R : AV → Value → Prop} {m : List (AV × AV)} {es : List MapEntry} (h : MapRel kd R m es) {ka va : AV} {kv vv : Value} (hk : keyRel kd ka kv) (hv : R va vv) {es' : List MapEntry}
    (hes : (∃ (i : Nat) (e : MapEntry), mfind ka m ≠ none ∧ es[i]? = some e ∧ e.key = kv ∧ es' = es.set i { e with key := kv, val := vv }) ∨ (mfind ka m = none ∧ (∀ e ∈ es, e.key ≠ kv) ∧ ∃ c, es' = es ++ [⟨kv, vv, c⟩])) :
    MapRel kd R (mput ka va m) es' := by
  rcases hes with ⟨i, e, hf, hi, hek, rfl⟩ | ⟨hf, hno, c, rfl⟩
  · have hput : mput ka va m = mset ka va m := by simp [mput, Option.isSome_iff_ne_none, hf]
    rw [hput]
    have hilt := lt_of_get hi
    refine ⟨fun d hd => ?_, fun p hp => ?_, fun p hp q hq hpq => ?_, fun a b d d' ha hb hdd => ?_⟩
    · rcases List.mem_or_eq_of_mem_set hd with hd' | rfl
      · obtain ⟨j, hj⟩ := List.getElem?_of_mem hd
        by_cases hji : j = i
        · subst hji
          rw [List.getElem?_set_self hilt] at hj
          cases hj
          cases hm : mfind ka m with
          | none => exact absurd hm hf
          | some x => exact ⟨(ka, va), mem_mset.2 ⟨(ka, x), mfind_some hm, by simp [AV.same_refl]⟩, hk, hv⟩
        · rw [List.getElem?_set_ne (Ne.symm hji)] at hj
          obtain ⟨p, hp, k1, k2⟩ := h.to d (List.mem_of_getElem? hj)
          have hne : p.1 ≠ ka := fun hpk => hji (h.once' j i d e hj hi (by rw [hek]; rw [hpk] at k1; exact keyRel_fun k1 hk))
          exact ⟨p, mem_mset.2 ⟨p, hp, by rw [if_neg (fun hs => hne (AV.same_eq _ _ hs))]⟩, k1, k2⟩
      · cases hm : mfind ka m with
        | none => exact absurd hm hf
        | some x => exact ⟨(ka, va), mem_mset.2 ⟨(ka, x), mfind_some hm, by simp [AV.same_refl]⟩, hk, hv⟩
    · obtain ⟨q, hq, rfl⟩ := mem_mset.1 hp
      split
      · rename_i hs
        have := AV.same_eq _ _ hs
        refine ⟨{ e with key := kv, val := vv }, List.mem_of_getElem? (List.getElem?_set_self hilt), by rw [this]; exact hk, hv⟩
      · rename_i hs
        obtain ⟨d, hd, k1, k2⟩ := h.fro q hq
        obtain ⟨j, hj⟩ := List.getElem?_of_mem hd
        have hji : j ≠ i := by
          intro e'
          subst e'
          rw [hi] at hj
          cases hj
          rw [hek] at k1
          exact hs ((same_iff _ _).2 (keyRel_inj k1 hk))
        exact ⟨d, List.mem_of_getElem? (by rw [List.getElem?_set_ne (Ne.symm hji)]; exact hj), k1, k2⟩
    · obtain ⟨p', hp', rfl⟩ := mem_mset.1 hp
      obtain ⟨q', hq', rfl⟩ := mem_mset.1 hq
      have hf1 : ∀ (r : AV × AV), (if AV.same r.1 ka = true then (r.1, va) else r).1 = r.1 := by intro r; split <;> rfl
      rw [hf1, hf1] at hpq
      rw [h.once p' hp' q' hq' hpq]
    · by_cases hai : a = i
      · by_cases hbi : b = i
        · rw [hai, hbi]
        · subst hai
          rw [List.getElem?_set_self hilt] at ha
          cases ha
          rw [List.getElem?_set_ne (Ne.symm hbi)] at hb
          exact h.once' a b e d' hi hb (hek.trans hdd)
      · rw [List.getElem?_set_ne (Ne.symm hai)] at ha
        by_cases hbi : b = i
        · subst hbi
          rw [List.getElem?_set_self hilt] at hb
          cases hb
          exact h.once' a b d e ha hi (hdd.trans hek.symm)
        · rw [List.getElem?_set_ne (Ne.symm hbi)] at hb
          exact h.once' a b d d' ha hb hdd
  · have hput : mput ka va m = mins ka va m := by simp [mput, hf]
    rw [hput]
    refine ⟨fun d hd => ?_, fun p hp => ?_, fun p hp q hq hpq => ?_, fun a b d d' ha hb hdd => ?_⟩
    · rcases List.mem_append.1 hd with hd | hd
      · obtain ⟨p, hp, k1, k2⟩ := h.to d hd
        exact ⟨p, mem_mins.2 (.inr hp), k1, k2⟩
      · simp at hd; subst hd
        exact ⟨(ka, va), mem_mins.2 (.inl rfl), hk, hv⟩
    · rcases mem_mins.1 hp with rfl | hp
      · exact ⟨⟨kv, vv, c⟩, by simp, hk, hv⟩
      · obtain ⟨d, hd, k1, k2⟩ := h.fro p hp
        exact ⟨d, List.mem_append_left _ hd, k1, k2⟩
    · rcases mem_mins.1 hp with rfl | hp' <;> rcases mem_mins.1 hq with rfl | hq'
      · rfl
      · exact absurd hpq.symm (mfind_none hf q hq')
      · exact absurd hpq (mfind_none hf p hp')
      · exact h.once p hp' q hq' hpq
    · have hnew : ∀ (j : Nat) (x : MapEntry), (es ++ [⟨kv, vv, c⟩])[j]? = some x → (j < es.length ∧ es[j]? = some x) ∨ (j = es.length ∧ x.key = kv) := by
        intro j x hj
        rcases Nat.lt_or_ge j es.length with hlt | hge
        · rw [List.getElem?_append_left hlt] at hj; exact .inl ⟨hlt, hj⟩
        · have hl := lt_of_get hj
          simp at hl
          have : j = es.length := by omega
          subst this
          simp at hj
          subst hj
          exact .inr ⟨rfl, rfl⟩
      rcases hnew a d ha with ⟨_, ha⟩ | ⟨ha, hka⟩ <;> rcases hnew b d' hb with ⟨_, hb⟩ | ⟨hb, hkb⟩
      · exact h.once' a b d d' ha hb hdd
      · exact absurd (hdd.trans hkb) (hno d (List.mem_of_getElem? ha))
      · exact absurd (hdd.symm.trans hka) (hno d' (List.mem_of_getElem? hb))
      · omega

theorem topAll_le' {l : List AV} {n : Nat} (h : ∀ a ∈ l, a.top ≤ n) : topAll l ≤ n := by
  induction l with
  | nil => exact Nat.zero_le _
  | cons a r ih =>
    simp only [topAll]
    have h1 := h a (List.mem_cons_self ..)
    have h2 := ih fun x hx => h x (List.mem_cons_of_mem _ hx)
    omega

theorem top_mput {kd : Option IntKind} {k v : AV} {m : List (AV × AV)} (hk : keyOk kd k = true) : (Blk.map kd (mput k v m)).top ≤ max (Blk.map kd m).top v.top := by
  have hk0 : k.top = 0 := by cases k <;> simp [keyOk] at hk <;> rfl
  have hmem : ∀ p ∈ mput k v m, (p.1 = k ∨ ∃ q ∈ m, p.1 = q.1) ∧ (p.2 = v ∨ ∃ q ∈ m, p.2 = q.2) := by
    intro p hp
    simp only [mput] at hp
    split at hp
    · obtain ⟨q, hq, rfl⟩ := mem_mset.1 hp
      split
      · exact ⟨.inr ⟨q, hq, rfl⟩, .inl rfl⟩
      · exact ⟨.inr ⟨q, hq, rfl⟩, .inr ⟨q, hq, rfl⟩⟩
    · rcases mem_mins.1 hp with rfl | hp
      · exact ⟨.inl rfl, .inl rfl⟩
      · exact ⟨.inr ⟨p, hp, rfl⟩, .inr ⟨p, hp, rfl⟩⟩
  have hfst : ∀ q ∈ m, q.1.top ≤ (Blk.map kd m).top := by
    intro q hq
    have : q.1 ∈ m.map Prod.fst := List.mem_map.2 ⟨q, hq, rfl⟩
    have h : ∀ (l : List AV) (a : AV), a ∈ l → a.top ≤ topAll l := by
      intro l a
      induction l with
      | nil => intro h; cases h
      | cons x r ih =>
        intro h
        simp only [topAll]
        rcases List.mem_cons.1 h with rfl | h
        · omega
        · have := ih h; omega
    have := h _ _ this
    simp only [Blk.top]; omega
  have h1 : topAll ((mput k v m).map Prod.fst) ≤ max (Blk.map kd m).top v.top := topAll_le' fun a ha => by
    obtain ⟨p, hp, rfl⟩ := List.mem_map.1 ha
    rcases (hmem p hp).1 with h | ⟨q, hq, h⟩
    · rw [h, hk0]; omega
    · rw [h]; have := hfst q hq; omega
  have h2 : topAll ((mput k v m).map Prod.snd) ≤ max (Blk.map kd m).top v.top := topAll_le' fun a ha => by
    obtain ⟨p, hp, rfl⟩ := List.mem_map.1 ha
    rcases (hmem p hp).2 with h | ⟨q, hq, h⟩
    · rw [h]; omega
    · rw [h]; have := top_map (kd := kd) hq; omega
  simp only [Blk.top] at h1 h2 ⊢
  omega

theorem insert_sound (hs : Sim G ρ H w) {st : St} (hh : st.h = H) (hb : st.base ≤ H.length) {t : TypeId} {kd : Option IntKind} {e : TypeId} (ht : kdT P t = some (kd, e)) {x k v : AV} {vx vk vv : Value} (hx : RelH ρ H w x vx) (hk : RelH ρ H w k vk) (hv : RelH ρ H w v vv) (hvt : v.top ≤ H.length)
    (h : insertAV st kd x k v = some H') : ∃ w', (Instr.mapUpdate t vx vk vv).run P w = .ok () w' ∧ Sim G ρ H' w' ∧ Step st.base st.esc ρ H w ρ H' w' := by
  subst hh
  obtain ⟨kt, h1, h2⟩ := kdT_inv ht
  simp only [insertAV] at h
  split at h
  · rename_i hok
    have hkr := keyOk_rel hok hk
    split at h
    · rename_i b
      split at h
      · rename_i kd' m hm
        split at h
        · rename_i hc
          obtain ⟨hkd, hlay⟩ := hc
          subst hkd
          cases h
          obtain ⟨β, hρ, rfl⟩ := (hx.ref_inv rfl).1 _ _ hm
          obtain ⟨β', es, c, b1, b2, b3⟩ := hs.blk b _ hm
          rw [hρ] at b1; cases b1
          have hβ := (hs.dom _ _ hρ).1
          have htop := hs.tops b _ (lt_of_get hm) hm
          -- the model's run
          obtain ⟨es', c', hrun, hes⟩ : ∃ (es' : Array MapEntry) (c' : Nat), (Instr.mapUpdate t (.map (some β)) vk vv).run P w = .ok () { w with heap := w.heap.setIfInBounds β (.map es' c') } ∧
              ((∃ (i : Nat) (e : MapEntry), mfind k m ≠ none ∧ es.toList[i]? = some e ∧ e.key = vk ∧ es'.toList = es.toList.set i { e with key := vk, val := vv }) ∨ (mfind k m = none ∧ (∀ e ∈ es.toList, e.key ≠ vk) ∧ ∃ c, es'.toList = es.toList ++ [⟨vk, vv, c⟩])) := by
            have hget : (getObj β).run P w = .ok (.map es c) w := by simp [getObj, Sem.run, b2]
            have hset : ∀ o, (setObj β o).run P w = .ok () { w with heap := w.heap.setIfInBounds β o } := by intro o; simp [setObj, Sem.run, b2]
            rcases b3.find hkr with ⟨y, i, e', f1, f2, f3, f4, f5⟩ | ⟨f1, f2, f3⟩
            · refine ⟨es.modify i fun e => { e with key := vk, val := vv }, c, ?_, .inl ⟨i, e', by rw [f1]; simp, f2, f3, ?_⟩⟩
              · have hei : es[i]? = some e' := by simpa using f2
                simp only [Instr.mapUpdate, Sem.run_bind, run_underlying h1, Result.andThen_ok, hget]
                rw [checkKey_run h2]
                simp only [Result.andThen_ok, findKey_run h2 f5, Sem.run_bind, hei, Option.map_some, Option.getD_some, f3, Instr.keyThatStays, sameBits_key hkr, if_true, Sem.run_pure, hset]
              · rw [Array.toList_modify]
                apply List.ext_getElem?
                intro j
                rw [List.getElem?_modify]
                by_cases hji : j = i
                · subst hji
                  rw [List.getElem?_set_self (lt_of_get f2), f2]
                  simp
                · rw [List.getElem?_set_ne (Ne.symm hji)]
                  have hij : ¬ i = j := fun e => hji e.symm
                  simp only [hij, if_false]
                  cases es.toList[j]? <;> rfl
            · refine ⟨es.push { key := vk, val := vv, born := c }, c + 1, ?_, .inr ⟨f1, f2, c, by simp⟩⟩
              simp only [Instr.mapUpdate, Sem.run_bind, run_underlying h1, Result.andThen_ok, hget]
              rw [checkKey_run h2]
              simp only [Result.andThen_ok, findKey_run h2 f3, hset]
          have hnew : ({ w with heap := w.heap.setIfInBounds β (.map es' c') } : World).heap[β]? = some (.map es' c') := by simp [hβ]
          have hkeep : ∀ γ, γ < w.heap.size → ρ b ≠ some γ → ({ w with heap := w.heap.setIfInBounds β (.map es' c') } : World).heap[γ]? = w.heap[γ]? := fun γ _ hne => by
            show (w.heap.setIfInBounds β _)[γ]? = _
            rw [Array.getElem?_setIfInBounds_ne (fun e => hne (by rw [hρ, e]))]
          have hset : (st.h.set b (.map kd' (mput k v m)))[b]? = some (.map kd' (mput k v m)) := List.getElem?_set_self (lt_of_get hm)
          have htp := top_mput (v := v) (m := m) hok
          have hst : Step st.base st.esc ρ st.h w ρ (st.h.set b (.map kd' (mput k v m))) { w with heap := w.heap.setIfInBounds β (.map es' c') } :=
            step_set hs b _ _ hm (fun _ _ => rfl) rfl rfl rfl (by simp) hkeep (fun γ h => .inl h) (fun _ => ref_map hm hset rfl) (fun t' ht' he hbt hx' => by
              have := mayLay_cl hlay t' ht' he hbt hx'
              omega)
          refine ⟨_, hrun, sim_set hs b _ _ hm (fun _ _ => rfl) hst hkeep (fun γ h => .inl h) (fun γ h => by simpa using (hs.dom _ _ h).1) ?_ (by omega), hst⟩
          refine ⟨β, es', c', hρ, hnew, ?_⟩
          refine (mput_rel b3 hkr hv hes).mono fun p hp u hu => hst.rel hu ?_
          have := top_map (kd := kd') hp
          omega
        · cases h
      · cases h
    · cases h
  · cases h
end
end Go.Av

/-
  Slices that are not written any more: the evaluator takes them for values; nothing changes in the model's memory.
-/
namespace Go.Av
section
variable {G : Nat → Option (List AV)} {base : Nat} {esc : Option (List Nat)} {ρ ρ' : Nat → Option Nat} {H H' : List Blk} {w w' : World} {P : Program}

/-- An array's slice, as a value. -/
theorem arr_slice (hρ : ∀ β, Imm ρ β → Imm ρ' β) {b s off len cap β : Nat} {g : Option Nat} {es : List AV} (hb : BlkRel ρ H w b (.arr g s es)) (hβ : ρ b = some β) (hi : Imm ρ' β) (ht : topAll es = 0) (hl : off + len = es.length) (hc : len ≤ cap) :
    Rel0 ρ' w (.slice false (es.drop off)) (.slice (some ⟨β, off * s, none⟩) len cap) := by
  obtain ⟨β', c, e, fz, h1, h2, h3, h4, h5, h6, h7, h8⟩ := hb
  rw [hβ] at h1; simp at h1; subst h1
  refine .slice false _ _ len cap s (fun i j => (c[(off + i) * s + j]?).getD undef) (by simp; omega) hc (by simp) (by have := topAll_drop es off; omega) (sized_sub h7 (fun e he => List.mem_of_mem_drop he)) h6 (fun _ => ⟨rfl, hi⟩) (fun i j hi' hj => ?_) (fun i el cs j x hel hcs hj => ?_)
  · have : (off + i + 1) * s ≤ es.length * s := Nat.mul_le_mul_right _ (by omega)
    rw [Nat.add_mul] at this
    have hlt : (off + i) * s + j < c.size := by omega
    simp only [World.cell?, h2, ← Nat.add_mul]
    simp [hlt]
  · rw [List.getElem?_drop] at hel
    obtain ⟨v, hv, hr⟩ := h8 (off + i) el cs j x hel hcs hj
    rw [hv]
    have hx0 : x.top = 0 := by
      have := top_le_topAll hel
      have := top_cells hcs
      have := top_le_topAll hj
      omega
    exact (hr.to0 hx0).mono x.top (Nat.le_refl _) (fun β h _ => ⟨hρ β h, rfl⟩) (fun _ _ _ _ h => h)

theorem freeze_sound (hs : Sim G ρ H w) {b s : Nat} {g : Option Nat} {es : List AV} (hb : H[b]? = some (.arr g s es)) (ht : topAll es = 0) :
    ∃ ρ', Sim G ρ' (H.set b (.fro s es)) w ∧ Step base esc ρ H w ρ' (H.set b (.fro s es)) w ∧ (∀ off len v, off + len = es.length → RelH ρ H w (.mslice b off len) v → Rel0 ρ' w (.slice false (es.drop off)) v) := by
  have hblk := hs.blk b _ hb
  have himm : ∀ β, Imm ρ β → Imm (fun c => if c = b then none else ρ c) β := fun β h c hc => by
    try simp only at hc
    split at hc
    · simp at hc
    · exact h c hc
  have hsl : ∀ off len v, off + len = es.length → RefRel ρ H w (.mslice b off len) v → Rel0 (fun c => if c = b then none else ρ c) w (.slice false (es.drop off)) v := by
    intro off len v hl hr
    obtain ⟨β, cap, hβ, rfl, hcap, _⟩ := (hr.1 g s es hb).2 hl
    refine arr_slice himm hblk hβ (fun c hc => ?_) ht hl hcap
    try simp only at hc
    split at hc
    · simp at hc
    · rename_i hne; exact hne (hs.inj _ _ _ hc hβ)
  have hstep : Step base esc ρ H w (fun c => if c = b then none else ρ c) (H.set b (.fro s es)) w :=
    step_set hs b (.arr g s es) _ hb (fun c hc => by simp [hc]) rfl rfl rfl (Nat.le_refl _) (fun _ _ _ => rfl) (fun β h => by simp at h)
      (fun _ a' v' ha' hbk hr' => by
        have hgb : (H.set b (.fro s es))[b]? = some (.fro s es) := List.getElem?_set_self (lt_of_get hb)
        cases a' with
        | mptr b' o' => simp [AV.blk] at hbk; subst hbk; intro ty cs h; rw [hgb] at h; simp at h
        | eptr b' => simp [AV.blk] at hbk; subst hbk; intro g s es h; rw [hgb] at h; simp at h
        | mslice b' off' len' =>
          simp [AV.blk] at hbk; subst hbk
          refine ⟨fun g s es h => by rw [hgb] at h; simp at h, fun s es h hl => ?_⟩
          rw [hgb] at h; cases h
          exact hsl off' len' v' hl hr'
        | map b' => simp [AV.blk] at hbk; subst hbk; intro kd m h; rw [hgb] at h; simp at h
        | iter b' => simp [AV.blk] at hbk; subst hbk; intro l' p' h; rw [hgb] at h; simp at h
        | _ => simp [AV.isRef] at ha')
      (fun _ _ _ _ h => h)
  refine ⟨_, ?_, hstep, fun off len v hl hr => hsl off len v hl (hr.ref_inv rfl).1⟩
  refine sim_set hs b (.arr g s es) _ hb (fun c hc => by simp [hc]) hstep (fun _ _ _ => rfl) (fun β h => by simp at h) (fun β h => by simp at h) ?_ ?_
  · obtain ⟨_, _, _, _, _, _, _, _, _, h6, h7, _⟩ := hblk
    exact ⟨h7, h6⟩
  · show topAll es ≤ _; omega

/-- What 'solid' comes to. -/
def SolidOk (G : Nat → Option (List AV)) (base : Nat) (esc : Option (List Nat)) (ρ : Nat → Option Nat) (H : List Blk) (w : World) (H' : List Blk) (p : (Nat → Option Nat) → Prop) : Prop :=
  ∃ ρ', Sim G ρ' H' w ∧ Step base esc ρ H w ρ' H' w ∧ p ρ'

mutual
theorem solid_sound : ∀ (a : AV) (ρ : Nat → Option Nat) (H H' : List Blk) (v : Value) (a' : AV), Sim G ρ H w → RelH ρ H w a v → a.top ≤ H.length → solid H a = some (a', H') →
    SolidOk G base esc ρ H w H' fun ρ' => RelH ρ' H' w a' v ∧ a'.top ≤ a.top
  | .mslice b off len, ρ, H, H', v, a', hs, hr, ht, hz => by
    simp only [solid] at hz
    split at hz
    · rename_i g s es hes
      split at hz
      · rename_i hc
        cases hz
        obtain ⟨ρ', h1, h2, h3⟩ := freeze_sound (base := base) (esc := esc) hs hes hc.2
        exact ⟨ρ', h1, h2, (h3 off len v hc.1 hr).of0, by simp [AV.top]⟩
      · simp at hz
    · rename_i s es hes
      split at hz
      · rename_i hc
        cases hz
        exact ⟨ρ, hs, .refl, ((hr.ref_inv rfl).1.2 s es hes hc.1).of0, by simp [AV.top]⟩
      · simp at hz
    · simp at hz
  | .agg cs, ρ, H, H', v, a', hs, hr, ht, hz => by
    simp only [solid] at hz
    split at hz
    · rename_i cs' h' hz'
      cases hz
      obtain ⟨vs, rfl, hl, hp⟩ := hr.agg_inv
      obtain ⟨ρ', h1, h2, h3, h4, h5⟩ := solidAll_sound cs ρ H _ vs.toList cs' hs (by simpa using hl) (fun i c v hc hv => hp i c v hc (by simpa using hv)) ht hz'
      exact ⟨ρ', h1, h2, .agg _ _ (by simpa using h3) (fun i c v hc hv => h4 i c v hc (by simpa using hv)), h5⟩
    · simp at hz
  | .tuple cs, ρ, H, H', v, a', hs, hr, ht, hz => by
    simp only [solid] at hz
    split at hz
    · rename_i cs' h' hz'
      cases hz
      obtain ⟨vs, rfl, hl, hp⟩ := hr.tuple_inv
      obtain ⟨ρ', h1, h2, h3, h4, h5⟩ := solidAll_sound cs ρ H _ vs.toList cs' hs (by simpa using hl) (fun i c v hc hv => hp i c v hc (by simpa using hv)) ht hz'
      exact ⟨ρ', h1, h2, .tuple _ _ (by simpa using h3) (fun i c v hc hv => h4 i c v hc (by simpa using hv)), h5⟩
    · simp at hz
  | .undef, ρ, H, H', v, a', hs, hr, ht, hz => by simp [solid] at hz; obtain ⟨rfl, rfl⟩ := hz; exact ⟨ρ, hs, .refl, hr, Nat.le_refl _⟩
  | .bool _, ρ, H, H', v, a', hs, hr, ht, hz => by simp [solid] at hz; obtain ⟨rfl, rfl⟩ := hz; exact ⟨ρ, hs, .refl, hr, Nat.le_refl _⟩
  | .int _ _, ρ, H, H', v, a', hs, hr, ht, hz => by simp [solid] at hz; obtain ⟨rfl, rfl⟩ := hz; exact ⟨ρ, hs, .refl, hr, Nat.le_refl _⟩
  | .str _, ρ, H, H', v, a', hs, hr, ht, hz => by simp [solid] at hz; obtain ⟨rfl, rfl⟩ := hz; exact ⟨ρ, hs, .refl, hr, Nat.le_refl _⟩
  | .nilptr, ρ, H, H', v, a', hs, hr, ht, hz => by simp [solid] at hz; obtain ⟨rfl, rfl⟩ := hz; exact ⟨ρ, hs, .refl, hr, Nat.le_refl _⟩
  | .mptr _ _, ρ, H, H', v, a', hs, hr, ht, hz => by simp [solid] at hz; obtain ⟨rfl, rfl⟩ := hz; exact ⟨ρ, hs, .refl, hr, Nat.le_refl _⟩
  | .eptr _ _ _ _, ρ, H, H', v, a', hs, hr, ht, hz => by simp [solid] at hz; obtain ⟨rfl, rfl⟩ := hz; exact ⟨ρ, hs, .refl, hr, Nat.le_refl _⟩
  | .iptr _ _, ρ, H, H', v, a', hs, hr, ht, hz => by simp [solid] at hz; obtain ⟨rfl, rfl⟩ := hz; exact ⟨ρ, hs, .refl, hr, Nat.le_refl _⟩
  | .nilslice, ρ, H, H', v, a', hs, hr, ht, hz => by simp [solid] at hz; obtain ⟨rfl, rfl⟩ := hz; exact ⟨ρ, hs, .refl, hr, Nat.le_refl _⟩
  | .slice _ _, ρ, H, H', v, a', hs, hr, ht, hz => by simp [solid] at hz; obtain ⟨rfl, rfl⟩ := hz; exact ⟨ρ, hs, .refl, hr, Nat.le_refl _⟩
  | .nilfunc, ρ, H, H', v, a', hs, hr, ht, hz => by simp [solid] at hz; obtain ⟨rfl, rfl⟩ := hz; exact ⟨ρ, hs, .refl, hr, Nat.le_refl _⟩
  | .func _ _, ρ, H, H', v, a', hs, hr, ht, hz => by simp [solid] at hz; obtain ⟨rfl, rfl⟩ := hz; exact ⟨ρ, hs, .refl, hr, Nat.le_refl _⟩
  | .nilmap, ρ, H, H', v, a', hs, hr, ht, hz => by simp [solid] at hz; obtain ⟨rfl, rfl⟩ := hz; exact ⟨ρ, hs, .refl, hr, Nat.le_refl _⟩
  | .map _, ρ, H, H', v, a', hs, hr, ht, hz => by simp [solid] at hz; obtain ⟨rfl, rfl⟩ := hz; exact ⟨ρ, hs, .refl, hr, Nat.le_refl _⟩
  | .iter _, ρ, H, H', v, a', hs, hr, ht, hz => by simp [solid] at hz; obtain ⟨rfl, rfl⟩ := hz; exact ⟨ρ, hs, .refl, hr, Nat.le_refl _⟩
  | .nilif, ρ, H, H', v, a', hs, hr, ht, hz => by simp [solid] at hz; obtain ⟨rfl, rfl⟩ := hz; exact ⟨ρ, hs, .refl, hr, Nat.le_refl _⟩

theorem solidAll_sound : ∀ (cs : List AV) (ρ : Nat → Option Nat) (H H' : List Blk) (vs : List Value) (cs' : List AV), Sim G ρ H w → cs.length = vs.length → (∀ (i : Nat) c v, cs[i]? = some c → vs[i]? = some v → RelH ρ H w c v) → topAll cs ≤ H.length →
    solidAll H cs = some (cs', H') →
    SolidOk G base esc ρ H w H' fun ρ' => cs'.length = vs.length ∧ (∀ (i : Nat) c v, cs'[i]? = some c → vs[i]? = some v → RelH ρ' H' w c v) ∧ topAll cs' ≤ topAll cs
  | [], ρ, H, H', vs, cs', hs, hl, hp, ht, hz => by
    simp [solidAll] at hz
    obtain ⟨rfl, rfl⟩ := hz
    exact ⟨ρ, hs, .refl, hl, fun i c v h => by simp at h, Nat.le_refl _⟩
  | a :: r, ρ, H, H', vs, cs', hs, hl, hp, ht, hz => by
    simp only [solidAll] at hz
    split at hz
    · simp at hz
    · rename_i a' h1 hz1
      split at hz
      · simp at hz
      · rename_i r' h2 hz2
        cases hz
        cases vs with
        | nil => simp at hl
        | cons v vr =>
          simp only [topAll] at ht
          obtain ⟨ρ1, k1, k2, k3, k4⟩ := solid_sound a ρ H h1 v a' hs (hp 0 a v rfl rfl) (by omega) hz1
          have hlen := k2.len
          obtain ⟨ρ2, m1, m2, m3, m4, m5⟩ := solidAll_sound r ρ1 h1 _ vr r' k1 (by simpa using hl) (fun i c u hc hu => k2.rel (hp (i + 1) c u (by simpa using hc) (by simpa using hu)) (by have := top_le_topAll hc; omega)) (by omega) hz2
          refine ⟨ρ2, m1, k2.trans m2, by simp [m3], fun i c u hc hu => ?_, by simp only [topAll]; omega⟩
          cases i with
          | zero =>
            simp at hc hu; subst hc; subst hu
            exact m2.rel k3 (by omega)
          | succ i => exact m4 i c u (by simpa using hc) (by simpa using hu)
end
end
end Go.Av

/-
  append: within the capacity, or in a new array: the evaluator doesn't tell which.
-/
namespace Go.Av
section
variable {G : Nat → Option (List AV)} {base : Nat} {esc : Option (List Nat)} {ρ ρ' : Nat → Option Nat} {H H' : List Blk} {w w' : World} {P : Program}

def cellsOf (us : List Value) : List Value := us.flatMap fun u => u.cells.toList

theorem cellsOf_length {us : List Value} {s : Nat} (h : ∀ u ∈ us, u.cells.size = s) : (cellsOf us).length = us.length * s := by
  induction us with
  | nil => simp [cellsOf]
  | cons u r ih =>
    have h1 := h u (by simp)
    have h2 := ih (fun x hx => h x (by simp [hx]))
    simp only [cellsOf, List.flatMap_cons, List.length_append, Array.length_toList] at *
    rw [h2, h1, List.length_cons, Nat.add_mul]; omega

theorem cellsOf_get {us : List Value} {s : Nat} (h : ∀ u ∈ us, u.cells.size = s) : ∀ (i : Nat) (u : Value) (j : Nat), us[i]? = some u → j < s → (cellsOf us)[i * s + j]? = u.cells[j]? := by
  induction us with
  | nil => intro i u j hi; simp at hi
  | cons x r ih =>
    intro i u j hi hj
    have hx := h x (by simp)
    simp only [cellsOf, List.flatMap_cons]
    cases i with
    | zero =>
      simp at hi; subst hi
      rw [List.getElem?_append_left (by simp; omega)]
      simp
    | succ i =>
      have := ih (fun x hx => h x (by simp [hx])) i u j (by simpa using hi) hj
      rw [List.getElem?_append_right (by simp [hx, Nat.add_mul]; omega)]
      simp only [Array.length_toList, hx]
      have e : (i + 1) * s + j - s = i * s + j := by rw [Nat.add_mul]; omega
      rw [e]
      exact this

theorem range_blocks {α : Type} (f : Nat → α) (n s : Nat) : (List.range (n * s)).map f = (List.range n).flatMap fun i => (List.range s).map fun j => f (i * s + j) := by
  induction n with
  | zero => simp
  | succ n ih =>
    rw [Nat.add_mul, Nat.one_mul, List.range_add, List.map_append, ih, List.range_succ, List.flatMap_append]
    simp [List.map_map, Function.comp_def]

theorem flatMap_same {α β : Type} {f g : α → List β} : ∀ (l : List α), (∀ a ∈ l, f a = g a) → l.flatMap f = l.flatMap g
  | [], _ => rfl
  | a :: r, h => by simp only [List.flatMap_cons]; rw [h a (by simp), flatMap_same r (fun x hx => h x (by simp [hx]))]
theorem flatMap_one {α β : Type} (f : α → β) : ∀ (l : List α), (l.flatMap fun a => [f a]) = l.map f
  | [] => rfl
  | a :: r => by simp only [List.flatMap_cons, List.map_cons]; rw [flatMap_one f r]; rfl

/-- An element, as it lies in memory. -/
def elemVal (w : World) (β o : Nat) : AV → Value
  | .agg cs => .agg ((List.range cs.length).map fun j => (w.cell? ⟨β, o + j, none⟩).getD undef).toArray
  | _ => (w.cell? ⟨β, o, none⟩).getD undef

theorem elemVal_rel {β o : Nat} {el : AV} {cs : List AV} (hc : el.cells = some cs) (hall : cs.all isCell = true) (hw : Win ρ H w β o cs) :
    RelH ρ H w el (elemVal w β o el) ∧ (elemVal w β o el).cells.toList = (List.range cs.length).map fun j => (w.cell? ⟨β, o + j, none⟩).getD undef := by
  have one : el.cells = some [el] → elemVal w β o el = (w.cell? ⟨β, o, none⟩).getD undef → RelH ρ H w el (elemVal w β o el) ∧ (elemVal w β o el).cells.toList = (List.range cs.length).map fun j => (w.cell? ⟨β, o + j, none⟩).getD undef := by
    intro h1 h2
    rw [hc] at h1; cases h1
    obtain ⟨v, hv, hr⟩ := hw 0 el rfl
    rw [h2]
    simp at hv
    rw [hv]
    refine ⟨hr, ?_⟩
    have ho := cells_oneCell hr (by simpa using hall)
    have : v.cells = #[v] := by cases v <;> simp [Value.oneCell'] at ho <;> rfl
    simp [this, hv]
  cases el with
  | agg cs' =>
    simp [AV.cells] at hc; subst hc
    refine ⟨.agg _ _ (by simp) (fun i c v hi hv => ?_), by simp [elemVal, Value.cells]⟩
    obtain ⟨v', hv', hr⟩ := hw i c hi
    have := lt_of_get hi
    simp [this, hv'] at hv
    subst hv; exact hr
  | undef => simp [AV.cells] at hc
  | tuple => simp [AV.cells] at hc
  | _ => exact one rfl rfl

theorem src_sound (hs : Sim G ρ H w) {y : AV} {vy : Value} {ys : List AV} (hr : RelH ρ H w y vy) (hy : srcOf H y = some ys) :
    topAll ys ≤ H.length ∧ ∃ us : List Value, us.length = ys.length ∧ (∀ (i : Nat) el u, ys[i]? = some el → us[i]? = some u → RelH ρ H w el u) ∧ (∀ w1, (Builtin.lenOf vy).run P w1 = .ok ys.length w1) ∧
      ∀ s w1, (∀ u ∈ us, u.cells.size = s) → w1.heap = w.heap → (Builtin.firstCells s ys.length vy).run P w1 = .ok (cellsOf us).toArray w1 := by
  have key : ∀ (h : elemsOf H y = some ys), topAll ys ≤ H.length ∧ ∃ us : List Value, us.length = ys.length ∧ (∀ (i : Nat) el u, ys[i]? = some el → us[i]? = some u → RelH ρ H w el u) ∧ (∀ w1, (Builtin.lenOf vy).run P w1 = .ok ys.length w1) ∧
      ∀ s w1, (∀ u ∈ us, u.cells.size = s) → w1.heap = w.heap → (Builtin.firstCells s ys.length vy).run P w1 = .ok (cellsOf us).toArray w1 := by
    intro h
    obtain ⟨ht, ⟨rfl, rfl⟩ | ⟨A, cap, s0, rfl, h1, h2, h3, h4, h5⟩⟩ := elems_sound hs hr h
    · exact ⟨ht, [], rfl, fun i el u h => by simp at h, fun w1 => rfl, fun s w1 _ _ => rfl⟩
    · refine ⟨ht, (List.range ys.length).map fun i => elemVal w A.block (A.off + i * s0) (ys.getD i .undef), by simp, fun i el u hel hu => ?_, fun w1 => rfl, fun s w1 hsz hw1 => ?_⟩
      · have hi := lt_of_get hel
        obtain ⟨cs, hcs, _, hall⟩ := sized_get h3 hel
        have hg : ys.getD i .undef = el := by simp [List.getD, hel]
        simp [hi] at hu
        subst hu
        have := (elemVal_rel hcs hall (h5 i el cs hel hcs)).1
        obtain ⟨_, he⟩ := List.getElem?_eq_some_iff.1 hel
        rw [he]; exact this
      · have hcell : ∀ a, w1.cell? a = w.cell? a := fun a => by simp [World.cell?, hw1]
        cases hys : ys with
        | nil => simp [Builtin.firstCells, loadCells, loadCellsFrom, cellsOf]
        | cons y0 yr =>
          rw [← hys]
          have hne : ys ≠ [] := by rw [hys]; simp
          have hsp := h4 hne
          have hval : ∀ i el, ys[i]? = some el → (elemVal w A.block (A.off + i * s0) el).cells.toList = (List.range s0).map fun j => (w.cell? ⟨A.block, A.off + i * s0 + j, none⟩).getD undef := fun i el hel => by
            obtain ⟨cs, hcs, hl, hall⟩ := sized_get h3 hel
            have := (elemVal_rel hcs hall (h5 i el cs hel hcs)).2
            rwa [hl] at this
          have hss : s = s0 := by
            have hy0 : ys[0]? = some y0 := by rw [hys]; rfl
            have h6 := hsz (elemVal w A.block (A.off + 0 * s0) (ys.getD 0 .undef)) (by
              refine List.mem_map.2 ⟨0, ?_, rfl⟩
              rw [List.mem_range, hys]; simp)
            have h7 := congrArg List.length (hval 0 y0 hy0)
            have hg : ys.getD 0 .undef = y0 := by simp [List.getD, hy0]
            rw [hg] at h6
            simp at h7
            simp at h6
            omega
          subst hss
          have hA : A = ⟨A.block, A.off, none⟩ := by cases A; simp at hsp; simp [hsp]
          have hrun := run_loadCells (P := P) w1 A (ys.length * s) (fun k => (w.cell? ⟨A.block, A.off + k, none⟩).getD undef) (fun k hk => by
            have hi : k / s < ys.length := Nat.div_lt_of_lt_mul (by rw [Nat.mul_comm]; exact hk)
            have hj : k % s < s := Nat.mod_lt _ h2
            have hel : ys[k / s]? = some ys[k / s] := by simp [hi]
            obtain ⟨cs, hcs, hl, hall⟩ := sized_get h3 hel
            obtain ⟨v, hv, _⟩ := h5 (k / s) _ cs hel hcs (k % s) cs[k % s] (by simp [hl, hj])
            have hk' : A.off + k / s * s + k % s = A.off + k := by rw [Nat.add_assoc, Nat.mul_comm (k / s) s, Nat.div_add_mod]
            rw [hk'] at hv
            have hadd : A.add k = ⟨A.block, A.off + k, none⟩ := by rw [hA, Addr.add_none]
            rw [hcell, hadd, hv]; rfl)
          simp only [Builtin.firstCells]
          rw [hrun, range_blocks]
          congr 2
          simp only [cellsOf, List.flatMap_map]
          refine flatMap_same _ (fun i hi => ?_)
          rw [List.mem_range] at hi
          have hel : ys[i]? = some ys[i] := by simp [hi]
          have hg : ys.getD i .undef = ys[i] := by simp [List.getD, hel]
          rw [hg, hval i _ hel]
          simp [Nat.add_assoc]
  cases y with
  | str l =>
    simp only [srcOf] at hy
    cases hy
    obtain ⟨S, rfl, rfl⟩ := hr.str_inv
    refine ⟨by rw [topAll_bytes]; omega, S.data.toList.map (fun b => Value.int .u8 b.toNat), by simp, fun i el u hel hu => ?_, fun w1 => ?_, fun s w1 _ _ => ?_⟩
    · simp only [List.getElem?_map, Option.map_eq_some_iff] at hel hu
      obtain ⟨b, hb, rfl⟩ := hel
      obtain ⟨b', hb', rfl⟩ := hu
      rw [hb] at hb'; cases hb'
      exact .int _ _
    · simp [Builtin.lenOf]
    · have hx : S.extract 0 S.size = S := by apply ByteArray.ext; simp
      simp only [Builtin.firstCells, List.length_map]
      have hl : S.data.toList.length = S.size := rfl
      rw [hl, hx]
      simp only [cellsOf, Value.cells, List.flatMap_map, flatMap_one, Sem.run_pure]
      congr 1
      apply Array.ext'
      simp
  | _ => exact key hy

theorem append_room {t u ty e : TypeId} {uu : TypeDesc} {i : TypeInfo} {a : Option Addr} {sLen sCap n : Nat} {src : Value} {news : Array Value} (ht : P.underlying t = some (.slice e)) (hu : P.underlying u = some uu) (huu : srcKind uu = true) (hi : P.info? e = some i)
    (hlen : (Builtin.lenOf src).run P w = .ok n w) (hsrc : (Builtin.firstCells i.size n src).run P w = .ok news w) (hroom : sLen + n ≤ sCap)
    (hst : (match a with
      | some a => storeCells (a.add (sLen * i.size)) news.toList
      | none => pure () : Sem Unit).run P w = .ok () w') :
    (Builtin.append_ #[t, u] ty #[.slice a sLen sCap, src]).run P w = .ok (.slice a (sLen + n) sCap) w' := by
  cases uu <;> simp [srcKind] at huu
  all_goals
    cases a with
    | none =>
      simp only [Sem.run_pure] at hst
      cases hst
      simp [Builtin.append_, run_underlying ht, run_underlying hu, sizeOf, typeInfo, hi, hlen, hroom, hsrc]
    | some a =>
      simp only at hst
      simp [Builtin.append_, run_underlying ht, run_underlying hu, sizeOf, typeInfo, hi, hlen, hroom, hsrc, hst]

theorem append_grow {t u ty e : TypeId} {uu : TypeDesc} {i : TypeInfo} {z : Value} {a : Option Addr} {sLen sCap n : Nat} {src : Value} {olds news : Array Value} (ht : P.underlying t = some (.slice e)) (hu : P.underlying u = some uu) (huu : srcKind uu = true) (hi : P.info? e = some i) (hz : i.zero = some z)
    (hlen : (Builtin.lenOf src).run P w = .ok n w) (hsrc : (Builtin.firstCells i.size n src).run P w.drew = .ok news w.drew) (hold : (Builtin.firstCells i.size sLen (.slice a sLen sCap)).run P w.drew = .ok olds w.drew)
    (hg : sCap < sLen + n) (h63 : sLen + n ≤ 4611686018427387904) (hfit : (sLen + n) * i.bytes ≤ 140737488355328) :
    (Builtin.append_ #[t, u] ty #[.slice a sLen sCap, src]).run P w = .ok (.slice (some ⟨w.heap.size, 0, none⟩) (sLen + n) (grownCap w (sLen + n) sCap e))
      (w.drew.alloc (.cells (olds ++ news ++ Builtin.zeroCells z.cells (grownCap w (sLen + n) sCap e - (sLen + n))) e)) := by
  have hn : ¬ (sLen + n ≤ sCap) := by omega
  have h63' : ¬ (9223372036854775807 < ((sLen : Int) + (n : Int))) := by omega
  have hf := growslice_fits hg hfit
  have h48' : ¬ (281474976710656 < Builtin.nextslicecap (sLen + n) sCap * i.bytes) := by omega
  cases uu <;> simp [srcKind] at huu
  all_goals simp [Builtin.append_, run_underlying ht, run_underlying hu, sizeOf, typeInfo, zeroValue, hi, hz, hlen, hn, h63', h48', Question.forced, hsrc, hold, newRow, grownCap]
end
end Go.Av

/-
  append: the three ways.
-/
namespace Go.Av
section
variable {G : Nat → Option (List AV)} {base : Nat} {esc : Option (List Nat)} {ρ ρ' : Nat → Option Nat} {H H' : List Blk} {w w' : World} {P : Program}

/-- Elements, and the cells that stand for them. -/
structure Row (ρ : Nat → Option Nat) (H : List Blk) (w : World) (s : Nat) (es : List AV) (us : List Value) : Prop where
  len : us.length = es.length
  size : ∀ u ∈ us, u.cells.size = s
  rel : ∀ (i : Nat) el u, es[i]? = some el → us[i]? = some u → RelH ρ H w el u
  top : topAll es ≤ H.length

theorem Row.cell {s : Nat} {es : List AV} {us : List Value} (h : Row ρ H w s es us) {c : Array Value} (hsd : sized s es = true) (hc : ∀ (k : Nat) v, (cellsOf us)[k]? = some v → c[k]? = some v) {i j : Nat} {el x : AV} {cs : List AV}
    (hel : es[i]? = some el) (hcs : el.cells = some cs) (hx : cs[j]? = some x) : ∃ v, c[i * s + j]? = some v ∧ RelH ρ H w x v ∧ x.top ≤ H.length := by
  have hi := lt_of_get hel
  have hu : us[i]? = some (us[i]'(by rw [h.len]; exact hi)) := by simp
  obtain ⟨cs', hcs', hl, _⟩ := sized_get hsd hel
  rw [hcs] at hcs'; cases hcs'
  have hj := lt_of_get hx
  have hsz := h.size _ (List.getElem_mem (by rw [h.len]; exact hi))
  obtain ⟨k1, k2⟩ := cells_rel (h.rel i el _ hel hu) hcs
  have hv : (us[i]'(by rw [h.len]; exact hi)).cells[j]? = some ((us[i]'(by rw [h.len]; exact hi)).cells[j]'(by omega)) := by simp
  have hg := cellsOf_get h.size i _ j hu (by omega)
  rw [hv] at hg
  refine ⟨_, hc _ _ hg, k2 j x _ hx hv, ?_⟩
  have := top_le_topAll hel
  have := top_cells hcs
  have := top_le_topAll hx
  have := h.top
  omega

theorem newArr_sound (hs : Sim G ρ H w) (hb : base ≤ H.length) {s cap : Nat} {es : List AV} {us : List Value} {c : Array Value} {e : TypeId} (h : Row ρ H w s es us) (hsd : sized s es = true) (hsp : 0 < s) (hcap : es.length ≤ cap) (hcs : c.size = cap * s)
    (hc : ∀ (k : Nat) v, (cellsOf us)[k]? = some v → c[k]? = some v) :
    ∃ ρ', Sim G ρ' (H ++ [.arr (some e) s es]) (w.drew.alloc (.cells c e)) ∧ Step base esc ρ H w ρ' (H ++ [.arr (some e) s es]) (w.drew.alloc (.cells c e)) ∧
      RelH ρ' (H ++ [.arr (some e) s es]) (w.drew.alloc (.cells c e)) (.mslice H.length 0 es.length) (.slice (some ⟨w.heap.size, 0, none⟩) es.length cap) := by
  have hw : (w.drew.alloc (.cells c e)).heap = w.heap.push (.cells c e) := rfl
  have hst := step_push (base := base) (esc := esc) hs hb (.arr (some e) s es) _ hw rfl rfl rfl
  have hnew : (w.drew.alloc (.cells c e)).heap[w.heap.size]? = some (.cells c e (0, 0)) := by rw [hw]; simp
  refine ⟨_, sim_push hs (.arr (some e) s es) _ hw rfl rfl rfl ?_ (by show topAll es ≤ _; have := h.top; omega), hst, .ref _ _ rfl rfl ⟨fun g z es' h' => ?_, fun z es' h' => ?_⟩⟩
  · refine ⟨w.heap.size, c, e, _, by simp, hnew, fun _ h => by cases h; exact ⟨rfl, rfl⟩, fun o _ => by simp, by rw [hcs]; exact Nat.mul_le_mul_right _ hcap, hsp, hsd, fun i el cs j x hel hcs' hj => ?_⟩
    obtain ⟨v, hv, hr, ht⟩ := h.cell hsd hc hel hcs' hj
    exact ⟨v, hv, hst.rel hr ht⟩
  · have hg : (H ++ [Blk.arr (some e) s es])[H.length]? = some (.arr (some e) s es) := by simp
    rw [hg] at h'; cases h'
    refine ⟨by omega, fun _ => ⟨w.heap.size, cap, by simp, by simp, hcap, ?_⟩⟩
    simp only [blockSize, hnew]; rw [Nat.zero_add]; exact hcs.symm
  · have hg : (H ++ [Blk.arr (some e) s es])[H.length]? = some (.arr (some e) s es) := by simp
    rw [hg] at h'; cases h'

/-- Aliases of an array that grows: those of all of it are so no more. -/
theorem ref_grow {b s ty : Nat} {es es' : List AV} (hes : H[b]? = some (.arr (some ty) s es)) (hget : H'[b]? = some (.arr (some ty) s es')) (hl : es.length < es'.length) :
    ∀ a v, a.isRef = true → a.blk = b → RefRel ρ H w a v → RefRel ρ' H' w' a v := by
  intro a v ha hb hr
  cases a with
  | mptr b' o' => simp [AV.blk] at hb; subst hb; intro ty'' cs'' h; rw [hget] at h; simp at h
  | eptr b' =>
    simp [AV.blk] at hb; subst hb
    intro g' s' es'' h
    rw [hget] at h; cases h
    have := (hr (some ty) s es hes).1
    exact ⟨by omega, fun h => by omega⟩
  | mslice b' =>
    simp [AV.blk] at hb; subst hb
    refine ⟨fun g' s' es'' h => ?_, fun s es h => ?_⟩
    · rw [hget] at h; cases h
      have := (hr.1 (some ty) s es hes).1
      exact ⟨by omega, fun h => by omega⟩
    · rw [hget] at h; simp at h
  | map b' => simp [AV.blk] at hb; subst hb; intro kd m hm; rw [hget] at hm; simp at hm
  | iter b' => simp [AV.blk] at hb; subst hb; intro m p hm; rw [hget] at hm; simp at hm
  | _ => simp [AV.isRef] at ha

theorem reArr_sound (hs : Sim G ρ H w) {b s cap : Nat} {es es' : List AV} {us : List Value} {c : Array Value} {e : TypeId} (hes : H[b]? = some (.arr (some e) s es)) (hgrow : es.length < es'.length) (h : Row ρ H w s es' us) (hsd : sized s es' = true) (hsp : 0 < s) (hcap : es'.length ≤ cap) (hcs : c.size = cap * s)
    (hc : ∀ (k : Nat) v, (cellsOf us)[k]? = some v → c[k]? = some v) (hcl : ∀ t, t ≤ base → (∀ l, esc = some l → ∀ q ∈ l, t ≤ q) → b < t → topAll es ≤ t → topAll es' ≤ t) :
    ∃ ρ', Sim G ρ' (H.set b (.arr (some e) s es')) (w.drew.alloc (.cells c e)) ∧ Step base esc ρ H w ρ' (H.set b (.arr (some e) s es')) (w.drew.alloc (.cells c e)) ∧
      RelH ρ' (H.set b (.arr (some e) s es')) (w.drew.alloc (.cells c e)) (.mslice b 0 es'.length) (.slice (some ⟨w.heap.size, 0, none⟩) es'.length cap) := by
  have hw : (w.drew.alloc (.cells c e)).heap = w.heap.push (.cells c e) := rfl
  have hnew : (w.drew.alloc (.cells c e)).heap[w.heap.size]? = some (.cells c e (0, 0)) := by rw [hw]; simp
  have hgb : (H.set b (.arr (some e) s es'))[b]? = some (.arr (some e) s es') := List.getElem?_set_self (lt_of_get hes)
  have hold : ∀ β, β < w.heap.size → (w.drew.alloc (.cells c e)).heap[β]? = w.heap[β]? := fun β hβ => by rw [hw, Array.getElem?_push]; simp [Nat.ne_of_lt hβ]
  have hstep : Step base esc ρ H w (fun k => if k = b then some w.heap.size else ρ k) (H.set b (.arr (some e) s es')) (w.drew.alloc (.cells c e)) :=
    step_set hs b (.arr (some e) s es) _ hes (fun k hk => by simp [hk]) rfl rfl rfl (by rw [hw]; simp) (fun β hβ _ => hold β hβ) (fun β hβ => by simp at hβ; exact .inr (by omega)) (fun _ => ref_grow hes hgb hgrow) hcl
  refine ⟨_, ?_, hstep, .ref _ _ rfl rfl ⟨fun g z es'' h' => ?_, fun z es'' h' => ?_⟩⟩
  · refine sim_set hs b (.arr (some e) s es) _ hes (fun k hk => by simp [hk]) hstep (fun β hβ _ => hold β hβ) (fun β hβ => by simp at hβ; exact .inr (by omega)) (fun β hβ => by simp at hβ; rw [hw]; simp; omega) ?_ h.top
    refine ⟨w.heap.size, c, e, _, by simp, hnew, fun _ h => by cases h; exact ⟨rfl, rfl⟩, fun o _ => by simp, by rw [hcs]; exact Nat.mul_le_mul_right _ hcap, hsp, hsd, fun i el cs j x hel hcs' hj => ?_⟩
    obtain ⟨v, hv, hr, ht⟩ := h.cell hsd hc hel hcs' hj
    exact ⟨v, hv, hstep.rel hr ht⟩
  · rw [hgb] at h'; cases h'
    refine ⟨by omega, fun _ => ⟨w.heap.size, cap, by simp, by simp, hcap, ?_⟩⟩
    simp only [blockSize, hnew]; rw [Nat.zero_add]; exact hcs.symm
  · rw [hgb] at h'; cases h'

theorem inArr_sound (hs : Sim G ρ H w) {b s cap β te : Nat} {es ys : List AV} {us : List Value} (hes : H[b]? = some (.arr (some te) s es)) (hβ : ρ b = some β) (hne : ys ≠ []) (h : Row ρ H w s ys us) (hsd : sized s ys = true) (hcap : es.length + ys.length ≤ cap) (hsz : (0 + cap) * s = blockSize w β)
    (hcl : ∀ t, t ≤ base → (∀ l, esc = some l → ∀ q ∈ l, t ≤ q) → b < t → topAll es ≤ t → topAll (es ++ ys) ≤ t) :
    ∃ w', (storeCells ((⟨β, 0, none⟩ : Addr).add (es.length * s)) (cellsOf us)).run P w = .ok () w' ∧ Sim G ρ (H.set b (.arr (some te) s (es ++ ys))) w' ∧ Step base esc ρ H w ρ (H.set b (.arr (some te) s (es ++ ys))) w' ∧
      RelH ρ (H.set b (.arr (some te) s (es ++ ys))) w' (.mslice b 0 (es.length + ys.length)) (.slice (some ⟨β, 0, none⟩) (es.length + ys.length) cap) := by
  have hblk := hs.blk b _ hes
  obtain ⟨β', c, ty, fz, h1, h2, h3, h4, h5, h6, h7, h8⟩ := hblk
  rw [hβ] at h1; simp at h1; subst h1
  obtain ⟨hfz, hte⟩ := h3 te rfl
  subst hfz
  have hbs : blockSize w β = c.size := by simp [blockSize, h2]
  have hcl' := cellsOf_length h.size
  rw [h.len] at hcl'
  have hfit : es.length * s + (cellsOf us).length ≤ c.size := by
    rw [hcl', ← Nat.add_mul, ← hbs, ← hsz]
    exact Nat.mul_le_mul_right _ (by omega)
  have hrun := run_storeCells_cells (P := P) β (es.length * s) (cellsOf us) 0 w (fun j hj => by
      have : es.length * s + j < c.size := by omega
      simp [World.cell?, h2, this]) (fun j hj => by simp [World.frozen?, h2]) (fun v hv => by
      obtain ⟨u, hu, hvu⟩ := List.mem_flatMap.1 hv
      obtain ⟨i, hi⟩ := List.getElem?_of_mem hu
      have hil := lt_of_get hi
      have hel : ys[i]? = some (ys[i]'(by rw [← h.len]; exact hil)) := by simp
      obtain ⟨cs, hcs, _, hall⟩ := sized_get hsd hel
      exact cells_one (h.rel i _ u hel hi) hcs hall v hvu)
  obtain ⟨m1, m2, m3, m4, m5, m6⟩ := setCells_at β (cellsOf us) (es.length * s) w c ty (0, 0) h2
  have hgb : (H.set b (.arr (some te) s (es ++ ys)))[b]? = some (.arr (some te) s (es ++ ys)) := List.getElem?_set_self (lt_of_get hes)
  have hgrow : es.length < (es ++ ys).length := by
    have : 0 < ys.length := List.length_pos_iff.2 hne
    simp; omega
  have hstep : Step base esc ρ H w ρ (H.set b (.arr (some te) s (es ++ ys))) (w.setCells β (es.length * s) (cellsOf us)) :=
    step_set hs b (.arr (some te) s es) _ hes (fun _ _ => rfl) m4 m5 m6 (by omega) (fun β' _ hne' => m3 β' (fun h => hne' (by rw [hβ, h]))) (fun β' h => .inl h) (fun _ => ref_grow hes hgb hgrow) hcl
  have htop : topAll (es ++ ys) ≤ H.length := by
    rw [topAll_append]
    have := hs.tops b _ (lt_of_get hes) hes
    have h9 : (Blk.arr (some te) s es).top = topAll es := rfl
    have := h.top
    omega
  refine ⟨_, ?_, ?_, hstep, .ref _ _ rfl rfl ⟨fun g z es'' h' => ?_, fun z es'' h' => ?_⟩⟩
  · rw [Addr.add_none, Nat.zero_add]; simpa using hrun
  · refine sim_set hs b (.arr (some te) s es) _ hes (fun _ _ => rfl) hstep (fun β' _ hne' => m3 β' (fun h => hne' (by rw [hβ, h]))) (fun β' h => .inl h) (fun β' h => by have := (hs.dom _ _ h).1; omega) ?_ htop
    have hsd' : sized s (es ++ ys) = true := by
      unfold sized at *
      rw [List.all_append, h7, hsd]; rfl
    refine ⟨β, _, ty, _, hβ, m1, fun _ h => by cases h; exact ⟨rfl, hte⟩, fun o _ => by simp, ?_, h6, hsd', fun i el cs j x hel hcs hj => ?_⟩
    · rw [putV_size, List.length_append, Nat.add_mul]; rw [hcl'] at hfit; exact hfit
    · have hil := lt_of_get hel
      obtain ⟨cs', hcs', hlen, _⟩ := sized_get hsd' hel
      rw [hcs] at hcs'; cases hcs'
      have hjl := lt_of_get hj
      have hidx : i * s + j < c.size := by
        have : (i + 1) * s ≤ (es ++ ys).length * s := Nat.mul_le_mul_right _ hil
        rw [List.length_append, Nat.add_mul, Nat.add_mul] at this
        rw [hcl'] at hfit
        omega
      rw [putV_get _ _ _ _ hidx]
      by_cases hie : i < es.length
      · rw [List.getElem?_append_left hie] at hel
        have : (i + 1) * s ≤ es.length * s := Nat.mul_le_mul_right _ hie
        rw [Nat.add_mul] at this
        rw [if_neg (by omega)]
        obtain ⟨v, hv, hr⟩ := h8 i el cs j x hel hcs hj
        refine ⟨v, hv, hstep.rel hr ?_⟩
        have a1 := top_le_topAll hel
        have a2 := top_cells hcs
        have a3 := top_le_topAll hj
        rw [topAll_append] at htop
        omega
      · rw [List.getElem?_append_right (by omega)] at hel
        have hge : es.length * s ≤ i * s := Nat.mul_le_mul_right _ (by omega)
        have hsub : i * s + j - es.length * s = (i - es.length) * s + j := by rw [Nat.sub_mul]; omega
        obtain ⟨v, hv, hr, ht⟩ := h.cell (c := (cellsOf us).toArray) hsd (fun k v hk => by simpa using hk) hel hcs hj
        have hv' : (cellsOf us)[(i - es.length) * s + j]? = some v := by simpa using hv
        have hlt := lt_of_get hv'
        rw [if_pos (by omega), hsub]
        exact ⟨v, hv', hstep.rel hr ht⟩
  · rw [hgb] at h'; cases h'
    refine ⟨by simp, fun _ => ⟨β, cap, hβ, by simp, hcap, ?_⟩⟩
    rw [hsz]
    simp [blockSize, h2, m1, putV_size]
  · rw [hgb] at h'; cases h'
end
end Go.Av

/-
  append, whole.
-/
namespace Go.Av
section
variable {G : Nat → Option (List AV)} {base : Nat} {esc : Option (List Nat)} {ρ ρ' : Nat → Option Nat} {H H' : List Blk} {w w' : World} {P : Program}

theorem zeroCells_size (z : Array Value) (n : Nat) : (Builtin.zeroCells z n).size = n * z.size := by simp [Builtin.zeroCells]

theorem toArray_get {l : List Value} {rest : Array Value} {k : Nat} {v : Value} (h : l[k]? = some v) : (l.toArray ++ rest)[k]? = some v := by
  have := lt_of_get h
  rw [Array.getElem?_append_left (by simpa using this)]
  simpa using h

theorem size_sum1 {n cap s : Nat} (h : n ≤ cap) : n * s + (cap - n) * s = cap * s := by rw [← Nat.add_mul]; congr 1; omega
theorem size_sum2 {a b cap s : Nat} (h : a + b ≤ cap) : a * s + b * s + (cap - (a + b)) * s = cap * s := by rw [← Nat.add_mul, ← Nat.add_mul]; congr 1; omega

theorem cellsOf_append (a b : List Value) : cellsOf (a ++ b) = cellsOf a ++ cellsOf b := by simp [cellsOf]

/-- A slice's elements as values, and its cells read. -/
theorem old_sound (hs : Sim G ρ H w) {x : AV} {base' : Option Addr} {len cap s : Nat} {es : List AV} (hr : RelH ρ H w x (.slice base' len cap)) (hx : elemsOf H x = some es) (hsd : sized s es = true) :
    len = es.length ∧ ∃ us, Row ρ H w s es us ∧ (Builtin.firstCells s len (.slice base' len cap)).run P w.drew = .ok (cellsOf us).toArray w.drew := by
  have hy : srcOf H x = some es := by
    cases x <;> simp [elemsOf] at hx <;> first | exact (by simpa [srcOf, elemsOf] using hx) | (simp [srcOf, elemsOf]; done)
  obtain ⟨ht, us, h1, h2, h3, h4⟩ := src_sound (P := P) hs hr hy
  have hlen : len = es.length := by
    have := h3 w
    simp [Builtin.lenOf] at this
    exact this
  have hsize : ∀ u ∈ us, u.cells.size = s := fun u hu => by
    obtain ⟨i, hi⟩ := List.getElem?_of_mem hu
    have hil := lt_of_get hi
    have hel : es[i]? = some (es[i]'(by rw [← h1]; exact hil)) := by simp
    obtain ⟨cs, hcs, hl, _⟩ := sized_get hsd hel
    have := (cells_rel (h2 i _ u hel hi) hcs).1
    omega
  refine ⟨hlen, us, ⟨h1, hsize, h2, ht⟩, ?_⟩
  have := h4 s w.drew hsize rfl
  rw [← hlen] at this
  exact this

theorem append_sound (hs : Sim G ρ H w) (st : St) (hst : st.h = H) (hbase : st.base = base) (hesc : st.esc = esc) (hb : base ≤ H.length) {t u ty e : TypeId} {uu : TypeDesc} {i : TypeInfo} {zl : List AV} {x y r : AV} {vx vy : Value}
    (ht : P.underlying t = some (.slice e)) (hu : P.underlying u = some uu) (huu : srcKind uu = true) (hi : P.info? e = some i) (hz : zeroT P e = some zl) (hzl : zl.length = i.size) (hsp : 0 < i.size)
    (hrx : RelH ρ H w x vx) (htx : x.top ≤ H.length) (hry : RelH ρ H w y vy) (hzz : appendAV st e i.size i.bytes x y = some (r, H')) :
    ∃ ρ' w' v, (Builtin.append_ #[t, u] ty #[vx, vy]).run P w = .ok v w' ∧ Sim G ρ' H' w' ∧ Step base esc ρ H w ρ' H' w' ∧ RelH ρ' H' w' r v ∧ r.top ≤ H'.length := by
  subst hst hbase hesc
  obtain ⟨i', zv, hi', hzv, hz'⟩ := zeroT_inv hz
  rw [hi] at hi'; cases hi'
  have hzsize : zv.cells.size = i.size := by
    have := (allAV0_rel (ρ := ρ) (w := w) hz').1
    rw [← hzl, this]; simp
  simp only [appendAV, Option.bind_eq_some_iff] at hzz
  obtain ⟨ys0, hys0, p, hp, hzz⟩ := hzz
  obtain ⟨ys, h1⟩ := p
  obtain ⟨hyt, us, u1, u2, u3, u4⟩ := src_sound (P := P) hs hry hys0
  obtain ⟨ρ1, hs1, st1, l1, l2, l3⟩ := solidAll_sound (base := st.base) (esc := st.esc) ys0 ρ st.h h1 us ys hs u1.symm u2 hyt hp
  split at hzz
  · rename_i hsd
    simp only at hsd hzz
    have hrx1 := st1.rel hrx htx
    have hlen1 := st1.len
    have hsize : ∀ v ∈ us, v.cells.size = i.size := fun v hv => by
      obtain ⟨k, hk⟩ := List.getElem?_of_mem hv
      have hkl := lt_of_get hk
      have hel : ys[k]? = some (ys[k]'(by rw [l1]; exact hkl)) := by simp
      obtain ⟨cs, hcs, hl, _⟩ := sized_get hsd hel
      have := (cells_rel (l2 k _ v hel hk) hcs).1
      omega
    have hrow : Row ρ1 h1 w i.size ys us := ⟨l1.symm, hsize, l2, by omega⟩
    have hnlen : ys0.length = ys.length := by rw [← u1, l1]
    have hlenO : ∀ w1, (Builtin.lenOf vy).run P w1 = .ok ys.length w1 := fun w1 => by rw [← hnlen]; exact u3 w1
    have hfc : ∀ w1, w1.heap = w.heap → (Builtin.firstCells i.size ys.length vy).run P w1 = .ok (cellsOf us).toArray w1 := fun w1 hw1 => by rw [← hnlen]; exact u4 i.size w1 hsize hw1
    have hnil : ys = [] → us = [] := fun h => by subst h; simp at l1; exact List.eq_nil_of_length_eq_zero l1.symm
    cases x with
    | nilslice =>
      simp only [growAV] at hzz
      obtain rfl := hrx1.nilslice_inv
      split at hzz
      · rename_i hy
        cases hzz
        subst hy
        have hus := hnil rfl
        subst hus
        have hrun := append_room (P := P) (ty := ty) (a := none) (sLen := 0) (sCap := 0) (w' := w) ht hu huu hi (hlenO w) (hfc w rfl) (by simp) rfl
        exact ⟨ρ1, w, _, hrun, hs1, st1, .nilslice, by simp [AV.top]⟩
      · rename_i hy
        split at hzz
        · rename_i hfit
          cases hzz
          simp only [fits, decide_eq_true_eq] at hfit
          have hpos : 0 < ys.length := List.length_pos_iff.2 hy
          have hrun := append_grow (P := P) (ty := ty) (a := none) (sLen := 0) (sCap := 0) (olds := #[]) ht hu huu hi hzv (hlenO w) (hfc w.drew rfl) rfl (by omega) (by omega) (by rw [Nat.zero_add]; exact hfit.1)
          rw [Nat.zero_add] at hrun
          have hcap := grownCap_ge w ys.length 0 e
          obtain ⟨ρ2, k1, k2, k3⟩ := newArr_sound (base := st.base) (esc := st.esc) (cap := grownCap w ys.length 0 e) (e := e) (c := #[] ++ (cellsOf us).toArray ++ Builtin.zeroCells zv.cells (grownCap w ys.length 0 e - ys.length)) hs1 (by omega) hrow hsd hsp hcap
            (by
              simp only [Array.size_append, zeroCells_size, hzsize, List.size_toArray, cellsOf_length hsize, u1, hnlen, List.length_nil, Nat.zero_add]
              exact size_sum1 hcap)
            (fun k v hk => by rw [Array.empty_append]; exact toArray_get hk)
          exact ⟨ρ2, _, _, hrun, k1, st1.trans k2, k3, by simp [AV.top]⟩
        · simp at hzz
    | slice f es =>
      simp only [growAV] at hzz
      obtain ⟨A, len, cap, s0, g, rfl, e1, e2, e3, _⟩ := hrx1.slice_inv
      split at hzz
      · rename_i hy
        cases hzz
        subst hy
        have hus := hnil rfl
        subst hus
        have hrun := append_room (P := P) (ty := ty) (a := some A) (sLen := len) (sCap := cap) (w' := w) ht hu huu hi (hlenO w) (hfc w rfl) (by simpa using e2) (by simp [cellsOf, storeCells])
        exact ⟨ρ1, w, _, hrun, hs1, st1, by simpa using hrx1, by simp [AV.top]⟩
      · rename_i hy
        split at hzz
        · rename_i hc
          obtain ⟨hf, hfit, hsde⟩ := hc
          cases hzz
          simp only [fits, decide_eq_true_eq] at hfit
          have hpos : 0 < ys.length := List.length_pos_iff.2 hy
          obtain ⟨hle, uo, ro, hfo⟩ := old_sound (P := P) (s := i.size) hs1 hrx1 rfl hsde
          subst e1
          have hcapl := e3 hf
          have hrun := append_grow (P := P) (ty := ty) (a := some A) (sLen := es.length) (sCap := cap) ht hu huu hi hzv (hlenO w) (hfc w.drew rfl) hfo (by omega) (by omega) (by exact hfit.1)
          have hcap := grownCap_ge w (es.length + ys.length) cap e
          have hrow2 : Row ρ1 h1 w i.size (es ++ ys) (uo ++ us) := by
            refine ⟨by simp [ro.len, hrow.len], fun v hv => ?_, fun k el v hel hv => ?_, by rw [topAll_append]; have := ro.top; have := hrow.top; omega⟩
            · rcases List.mem_append.1 hv with h | h
              · exact ro.size v h
              · exact hrow.size v h
            · by_cases hk : k < es.length
              · rw [List.getElem?_append_left hk] at hel
                rw [List.getElem?_append_left (by rw [ro.len]; exact hk)] at hv
                exact ro.rel k el v hel hv
              · rw [List.getElem?_append_right (by omega)] at hel
                rw [List.getElem?_append_right (by rw [ro.len]; omega), ro.len] at hv
                exact hrow.rel _ el v hel hv
          have hsd2 : sized i.size (es ++ ys) = true := by
            unfold sized at *
            rw [List.all_append, hsde, hsd]; rfl
          obtain ⟨ρ2, k1, k2, k3⟩ := newArr_sound (base := st.base) (esc := st.esc) (cap := grownCap w (es.length + ys.length) cap e) (e := e) (c := (cellsOf uo).toArray ++ (cellsOf us).toArray ++ Builtin.zeroCells zv.cells (grownCap w (es.length + ys.length) cap e - (es.length + ys.length))) hs1 (by omega) hrow2 hsd2 hsp (by simpa using hcap)
            (by
              simp only [Array.size_append, zeroCells_size, hzsize, List.size_toArray, cellsOf_length hsize, cellsOf_length ro.size, u1, hnlen, ro.len]
              first | exact size_sum2 hcap | exact size_sum2 hcap')
            (fun k v hk => by
              rw [cellsOf_append] at hk
              rw [show (cellsOf uo).toArray ++ (cellsOf us).toArray = (cellsOf uo ++ cellsOf us).toArray from by simp]
              exact toArray_get hk)
          rw [List.length_append] at k3
          exact ⟨ρ2, _, _, hrun, k1, st1.trans k2, k3, by simp [AV.top]⟩
        · simp at hzz
    | mslice b off len =>
      simp only [growAV] at hzz
      split at hzz
      · rename_i g zz es hes
        split at hzz
        · rename_i hc
          obtain ⟨rfl, rfl, rfl⟩ := hc
          obtain ⟨β, cap, hβ, hv, hcap, hbs⟩ := ((hrx1.ref_inv rfl).1.1 g _ es hes).2 (by omega)
          simp only [Nat.zero_mul] at hv
          subst hv
          split at hzz
          · rename_i hy
            cases hzz
            subst hy
            have hus := hnil rfl
            subst hus
            have hrun := append_room (P := P) (ty := ty) (a := some ⟨β, 0, none⟩) (sLen := es.length) (sCap := cap) (w' := w) ht hu huu hi (hlenO w) (hfc w rfl) (by simpa using hcap) (by simp [cellsOf, storeCells])
            exact ⟨ρ1, w, _, hrun, hs1, st1, by simpa using hrx1, by simp only [AV.top]; exact lt_of_get hes⟩
          · rename_i hy
            split at hzz
            · rename_i hc2
              obtain ⟨hfit, rfl, hml⟩ := hc2
              cases hzz
              simp only [fits, decide_eq_true_eq] at hfit
              have hpos : 0 < ys.length := List.length_pos_iff.2 hy
              have hcl : ∀ t, t ≤ st.base → (∀ l, st.esc = some l → ∀ q ∈ l, t ≤ q) → b < t → topAll es ≤ t → topAll (es ++ ys) ≤ t := fun t ht' he' hbt hx => by
                rw [topAll_append]
                exact mayLay_cl hml t ht' he' hbt hx
              by_cases hroom : es.length + ys.length ≤ cap
              · obtain ⟨w2, r1, r2, r3, r4⟩ := inArr_sound (P := P) (base := st.base) (esc := st.esc) hs1 hes hβ hy hrow hsd hroom hbs hcl
                have hrun := append_room (P := P) (ty := ty) (a := some ⟨β, 0, none⟩) (sLen := es.length) (sCap := cap) (w' := w2) ht hu huu hi (hlenO w) (hfc w rfl) hroom (by simpa using r1)
                exact ⟨ρ1, w2, _, hrun, r2, st1.trans r3, r4, by simp only [AV.top, List.length_set]; exact lt_of_get hes⟩
              · have hsde : sized i.size es = true := by
                  obtain ⟨_, _, _, _, _, _, _, _, _, _, h7, _⟩ := hs1.blk b _ hes
                  exact h7
                obtain ⟨hle, uo, ro, hfo⟩ := old_sound (P := P) (s := i.size) hs1 hrx1 (es := es) (by simp [elemsOf, hes]) hsde
                have hrun := append_grow (P := P) (ty := ty) (a := some ⟨β, 0, none⟩) (sLen := es.length) (sCap := cap) ht hu huu hi hzv (hlenO w) (hfc w.drew rfl) hfo (by omega) (by omega) (by exact hfit.1)
                have hcap' := grownCap_ge w (es.length + ys.length) cap e
                have hrow2 : Row ρ1 h1 w i.size (es ++ ys) (uo ++ us) := by
                  refine ⟨by simp [ro.len, hrow.len], fun v hv => ?_, fun k el v hel hv => ?_, by rw [topAll_append]; have := ro.top; have := hrow.top; omega⟩
                  · rcases List.mem_append.1 hv with h | h
                    · exact ro.size v h
                    · exact hrow.size v h
                  · by_cases hk : k < es.length
                    · rw [List.getElem?_append_left hk] at hel
                      rw [List.getElem?_append_left (by rw [ro.len]; exact hk)] at hv
                      exact ro.rel k el v hel hv
                    · rw [List.getElem?_append_right (by omega)] at hel
                      rw [List.getElem?_append_right (by rw [ro.len]; omega), ro.len] at hv
                      exact hrow.rel _ el v hel hv
                have hsd2 : sized i.size (es ++ ys) = true := by
                  unfold sized at *
                  rw [List.all_append, hsde, hsd]; rfl
                obtain ⟨ρ2, k1, k2, k3⟩ := reArr_sound (base := st.base) (esc := st.esc) (cap := grownCap w (es.length + ys.length) cap e) (e := e) (c := (cellsOf uo).toArray ++ (cellsOf us).toArray ++ Builtin.zeroCells zv.cells (grownCap w (es.length + ys.length) cap e - (es.length + ys.length))) hs1 hes (by simp; omega) hrow2 hsd2 hsp (by simpa using hcap')
                  (by
              simp only [Array.size_append, zeroCells_size, hzsize, List.size_toArray, cellsOf_length hsize, cellsOf_length ro.size, u1, hnlen, ro.len]
              first | exact size_sum2 hcap | exact size_sum2 hcap')
                  (fun k v hk => by
                    rw [cellsOf_append] at hk
                    rw [show (cellsOf uo).toArray ++ (cellsOf us).toArray = (cellsOf uo ++ cellsOf us).toArray from by simp]
                    exact toArray_get hk) hcl
                rw [List.length_append] at k3
                exact ⟨ρ2, _, _, hrun, k1, st1.trans k2, k3, by simp only [AV.top, List.length_set]; exact lt_of_get hes⟩
            · simp at hzz
        · simp at hzz
      · simp at hzz
    | _ => simp [growAV] at hzz
  · simp at hzz
end
end Go.Av

/-
  Every operation of the evaluator's is the model's.
-/
namespace Go.Av
section
variable {G : Nat → Option (List AV)} {base : Nat} {esc : Option (List Nat)} {ρ ρ' : Nat → Option Nat} {H H' : List Blk} {w w' : World} {P : Program}

/-- A call that the evaluator has an answer to is the model's. -/
def CallOk (G : Nat → Option (List AV)) (P : Program) (cf : CallF) : Prop :=
  ∀ lim f args H r H', cf lim f args H = some (r, H') → ∀ ρ w (vs : Array Value), Sim G ρ H w → args.length = vs.size → (∀ (i : Nat) a v, args[i]? = some a → vs[i]? = some v → RelH ρ H w a v) → topAll args ≤ H.length →
    (∃ fn, P.funcs[f]? = some fn ∧ (fn.name == "runtime.NumGoroutine") = false ∧ fn.body.isSome = true) ∧
    Calls P f vs w fun e w' => ∃ v ρ' esc', e = .returned v ∧ Sim G ρ' H' w' ∧ (∀ l, esc' = some l → ∀ q ∈ l, lim q = true) ∧ Step H.length esc' ρ H w ρ' H' w' ∧ RelH ρ' H' w' r v ∧ r.top ≤ H'.length

theorem wp_value {o : Oper} {a : Act} {next : Act → World → Prop} {Q : Exit → Act → World → Prop} {s : Sem Value} {v : Value} (hex : execOp a.eval o = (do pure (Next.value (← s)))) (hrun : s.run P w = .ok v w') (h : next (a.put o.dst v) w') : o.wp P a w next Q := by
  unfold Oper.wp
  rw [hex]
  simp only [Sem.run_bind, hrun, Result.andThen_ok, Sem.run_pure]
  exact h

theorem wp_unit {o : Oper} {a : Act} {next : Act → World → Prop} {Q : Exit → Act → World → Prop} {s : Sem Unit} (hex : execOp a.eval o = (do s; pure Next.skip)) (hrun : s.run P w = .ok () w') (h : next (a.put o.dst undef) w') : o.wp P a w next Q := by
  unfold Oper.wp
  rw [hex]
  simp only [Sem.run_bind, hrun, Result.andThen_ok, Sem.run_pure]
  exact h

theorem Step.weaken {b' : Nat} {e' : Option (List Nat)} (h : Step b' e' ρ H w ρ' H' w') (hb : base ≤ b') (he : ∀ l, e' = some l → ∀ q ∈ l, base ≤ q ∨ ∃ l', esc = some l' ∧ q ∈ l') : Step base esc ρ H w ρ' H' w' :=
  ⟨h.os, h.tape, h.output, h.size, h.keep, h.fresh, h.len, h.ref, fun t ht hq hc => h.closed t (Nat.le_trans ht hb) (fun l hl q hq' => by
    rcases he l hl q hq' with h1 | ⟨l', h1, h2⟩
    · omega
    · exact hq l' h1 q h2) hc⟩

theorem opds_sound {fr : List (Nat × AV)} {a : Act} (hs : Sim G ρ H w) (hf : FrRel ρ H w fr a.tmps) : ∀ {os : List Operand} {xs : List Opd}, cOpds os = some xs →
    xs.length = os.length ∧ topAll (getAll G fr xs) ≤ H.length ∧ ∀ (i : Nat) x v, (getAll G fr xs)[i]? = some x → (os.map a.eval)[i]? = some v → RelH ρ H w x v := by
  intro os
  induction os with
  | nil => intro xs h; simp [cOpds] at h; subst h; simp [getAll, topAll]
  | cons o r ih =>
    intro xs h
    simp only [cOpds, Option.bind_eq_some_iff] at h
    obtain ⟨x, hx, l, hl, h⟩ := h
    cases h
    obtain ⟨h1, h2, h3⟩ := ih hl
    obtain ⟨k1, k2⟩ := opd_sound hs hf hx
    refine ⟨by simp [h1], ?_, fun i y v hy hv => ?_⟩
    · simp only [getAll, List.map_cons, topAll]
      simp only [getAll] at h2
      omega
    · cases i with
      | zero => simp [getAll] at hy hv; subst hy; subst hv; exact k1
      | succ i => exact h3 i y v (by simpa [getAll] using hy) (by simpa using hv)

theorem mayLay_lim {st : St} {q : Nat} (h : limOf st q = true) : st.base ≤ q ∨ ∃ l', st.esc = some l' ∧ q ∈ l' := by
  simp only [limOf, Bool.or_eq_true, decide_eq_true_eq] at h
  rcases h with h | h
  · exact .inl h
  · right
    split at h
    · simp at h
    · rename_i l hl
      exact ⟨l, hl, by simpa using h⟩

set_option maxHeartbeats 1000000 in
theorem op_wp {cf : CallF} (hcf : CallOk G P cf) (hs : Sim G ρ H w) {st : St} (hh : st.h = H) (hb : st.base ≤ H.length) {a : Act} (hf : FrRel ρ H w st.fr a.tmps) {frz mk : Bool} {o : Oper} {mop : MOp} (hc : cOp P frz mk o.op = some mop) {r : AV} (hz : stepOp G cf st mop = some (r, H'))
    {next : Act → World → Prop} {Q : Exit → Act → World → Prop}
    (hnext : ∀ ρ' w' v, Sim G ρ' H' w' → Step st.base st.esc ρ H w ρ' H' w' → RelH ρ' H' w' r v → r.top ≤ H'.length → next (a.put o.dst v) w') : o.wp P a w next Q := by
  subst hh
  have pureV : ∀ {s : Sem Value} {v : Value}, execOp a.eval o = (do pure (Next.value (← s))) → s.run P w = .ok v w → H' = st.h → RelH ρ st.h w r v → r.top ≤ st.h.length → o.wp P a w next Q := by
    intro s v h1 h2 h3 h4 h5
    subst h3
    exact wp_value h1 h2 (hnext ρ w v hs .refl h4 h5)
  cases hop : o.op with
  | move x =>
    simp only [hop, cOp, Option.map_eq_some_iff] at hc
    obtain ⟨y, hy, rfl⟩ := hc
    simp only [stepOp] at hz
    cases hz
    obtain ⟨k1, k2⟩ := opd_sound hs hf hy
    have hex : execOp a.eval o = (do pure (Next.value (← (pure (a.eval x) : Sem Value)))) := by simp only [execOp, hop]; rfl
    exact pureV hex rfl rfl k1 k2
  | assign x =>
    simp only [hop, cOp, Option.map_eq_some_iff] at hc
    obtain ⟨y, hy, rfl⟩ := hc
    simp only [stepOp] at hz
    cases hz
    obtain ⟨k1, k2⟩ := opd_sound hs hf hy
    have hex : execOp a.eval o = (do pure (Next.value (← (pure (a.eval x) : Sem Value)))) := by simp only [execOp, hop]; rfl
    exact pureV hex rfl rfl k1 k2
  | pick c x y =>
    simp only [hop, cOp, Option.bind_eq_some_iff] at hc
    obtain ⟨c', hc', x', hx', y', hy', hc⟩ := hc
    cases hc
    simp only [stepOp] at hz
    obtain ⟨kc, _⟩ := opd_sound hs hf hc'
    split at hz
    · rename_i t ht
      cases hz
      rw [ht] at kc
      have hcv := kc.bool_inv
      have hex : execOp a.eval o = (do pure (Next.value (← (do if ← asBool (a.eval c) then pure (a.eval x) else pure (a.eval y) : Sem Value)))) := by
        simp only [execOp, hop, hcv, asBool]; cases t <;> rfl
      cases t with
      | true =>
        obtain ⟨k1, k2⟩ := opd_sound hs hf hx'
        exact pureV hex (by simp [hcv, asBool]) rfl k1 k2
      | false =>
        obtain ⟨k1, k2⟩ := opd_sound hs hf hy'
        exact pureV hex (by simp [hcv, asBool]) rfl k1 k2
    · simp at hz
  | alloc e =>
    simp only [hop, cOp, Option.bind_eq_some_iff] at hc
    obtain ⟨z, hzt, hc⟩ := hc
    split at hc
    · cases hc
      simp only [stepOp] at hz
      cases hz
      obtain ⟨ρ', w', u, k1, k2, k3, k4⟩ := alloc_sound (base := st.base) (esc := st.esc) hs hb hzt
      exact wp_value (by simp only [execOp, hop]) k1 (hnext ρ' w' u k2 k3 k4 (by simp [AV.top]))
    · simp at hc
  | box e x =>
    simp only [hop, cOp, Option.map_eq_some_iff] at hc
    obtain ⟨y, hy, rfl⟩ := hc
    simp only [stepOp, Option.bind_eq_some_iff] at hz
    obtain ⟨cs, hcs, hz⟩ := hz
    cases hz
    obtain ⟨k1, k2⟩ := opd_sound hs hf hy
    obtain ⟨ρ', w', u, m1, m2, m3, m4⟩ := box_sound (base := st.base) (esc := st.esc) (e := e) (P := P) hs hb k1 k2 hcs
    exact wp_value (by simp only [execOp, hop]) m1 (hnext ρ' w' u m2 m3 m4 (by simp [AV.top]))
  | build t ps =>
    simp only [hop, cOp, Option.bind_eq_some_iff] at hc
    obtain ⟨z, hzt, d, hd, hc⟩ := hc
    split at hc
    · rename_i fields
      split at hc
      · rename_i hall
        simp only [Option.bind_eq_some_iff] at hc
        obtain ⟨l, hl, hc⟩ := hc
        cases hc
        simp only [stepOp, Option.bind_eq_some_iff] at hz
        obtain ⟨cs, hcs, hz⟩ := hz
        cases hz
        obtain ⟨u, k1, k2, k3⟩ := buildS_sound hs hf hzt hd hall hl hcs
        exact pureV (by simp only [execOp, hop]) k1 rfl k2 k3
      · simp at hc
    · simp only [Option.bind_eq_some_iff] at hc
      obtain ⟨s, hsz, l, hl, hc⟩ := hc
      cases hc
      simp only [stepOp, Option.bind_eq_some_iff] at hz
      obtain ⟨cs, hcs, hz⟩ := hz
      cases hz
      obtain ⟨u, k1, k2, k3⟩ := buildA_sound hs hf hzt hd hsz hl hcs
      exact pureV (by simp only [execOp, hop]) k1 rfl k2 k3
    · simp at hc
  | buildSlice t n ps =>
    simp only [hop, cOp, Option.bind_eq_some_iff] at hc
    obtain ⟨d, hd, hc⟩ := hc
    split at hc
    · simp only [Option.bind_eq_some_iff] at hc
      obtain ⟨s, hsz, z, hzt, ag, hag, l, hl, hc⟩ := hc
      split at hc
      · rename_i hcc
        obtain ⟨c1, c2, c3, c4⟩ := hcc
        simp only [Option.bind_eq_some_iff] at hc
        obtain ⟨za, hza, hc⟩ := hc
        cases mk with
        | false =>
          simp only [Bool.false_eq_true, if_false] at hc
          cases hc
          simp only [stepOp, Option.bind_eq_some_iff] at hz
          obtain ⟨es, hes, hz⟩ := hz
          split at hz
          · rename_i hcd
            cases hz
            obtain ⟨w', u, k1, k2, k3, k4⟩ := mkSlice_sound (base := st.base) (esc := st.esc) hs hf hd hsz hzt c1 c2 c3 hza hag c4 hl hes hcd.1 hcd.2
            exact wp_value (by simp only [execOp, hop]) k1 (hnext ρ w' u k2 k3 k4 (by simp [AV.top]))
          · simp at hz
        | true =>
          simp only [if_true] at hc
          cases hc
          simp only [stepOp, Option.bind_eq_some_iff] at hz
          obtain ⟨es, hes, hz⟩ := hz
          split at hz
          · rename_i hcd
            cases hz
            obtain ⟨ρ', w', u, k1, k2, k3, k4⟩ := mkSliceM_sound (base := st.base) (esc := st.esc) hs hb hf hd hsz hzt c1 c2 c3 hza hag c4 hl hes hcd.1 hcd.2
            exact wp_value (by simp only [execOp, hop]) k1 (hnext ρ' w' u k2 k3 k4 (by simp [AV.top]))
          · simp at hz
      · simp at hc
    · simp at hc
  | load t x =>
    simp only [hop, cOp, Option.bind_eq_some_iff] at hc
    obtain ⟨s, hsh, y, hy, hc⟩ := hc
    cases hc
    simp only [stepOp, Option.bind_eq_some_iff] at hz
    obtain ⟨v, hv, hz⟩ := hz
    cases hz
    obtain ⟨k1, k2⟩ := opd_sound hs hf hy
    obtain ⟨u, m1, m2, m3⟩ := load_sound hs hsh k1 hv
    exact pureV (by simp only [execOp, hop]) m1 rfl m2 m3
  | store t x v =>
    simp only [hop, cOp, Option.bind_eq_some_iff] at hc
    obtain ⟨s, hsz, x', hx, v', hv, hc⟩ := hc
    cases hc
    simp only [stepOp, Option.bind_eq_some_iff] at hz
    obtain ⟨h', hst, hz⟩ := hz
    cases hz
    obtain ⟨k1, k2⟩ := opd_sound hs hf hx
    obtain ⟨m1, m2⟩ := opd_sound hs hf hv
    obtain ⟨w', n1, n2, n3⟩ := store_sound (P := P) hs st rfl rfl rfl hsz k1 m1 m2 hst
    exact wp_unit (by simp only [execOp, hop]) n1 (hnext ρ w' undef n2 n3 (.undef _) (by simp [AV.top]))
  | nilCheck x =>
    simp only [hop, cOp, Option.map_eq_some_iff] at hc
    obtain ⟨y, hy, rfl⟩ := hc
    simp only [stepOp, Option.bind_eq_some_iff] at hz
    obtain ⟨v, hv, hz⟩ := hz
    cases hz
    obtain ⟨k1, k2⟩ := opd_sound hs hf hy
    obtain ⟨β, off, h1, h2, h3⟩ := moveOf_sound k1 hv
    have hex : execOp a.eval o = (do pure (Next.value (← (pure (.pointer (some ⟨β, off, none⟩)) : Sem Value)))) := by
      simp only [execOp, hop, h1]; rfl
    exact pureV hex rfl rfl (by simpa using h2) (by omega)
  | binOp op t x y yt =>
    simp only [hop, cOp, Option.bind_eq_some_iff] at hc
    obtain ⟨x', hx, y', hy, hc⟩ := hc
    obtain ⟨k1, k2⟩ := opd_sound hs hf hx
    obtain ⟨m1, m2⟩ := opd_sound hs hf hy
    have hex : execOp a.eval o = (do pure (Next.value (← (do eqGuard op t x y (a.eval x) (a.eval y); binOp op t (a.eval x) (a.eval y) : Sem Value)))) := by
      simp only [execOp, hop]
    split at hc
    · cases hc
      simp only [stepOp, Option.bind_eq_some_iff] at hz
      obtain ⟨v, hv, hz⟩ := hz
      cases hz
      obtain ⟨u, n1, n2, n3⟩ := bin_sound (P := P) (t := t) (ox := x) (oy := y) k1 m1 hv
      exact pureV hex n1 rfl n2 (by omega)
    · rename_i k hk hk0
      cases hc
      simp only [stepOp] at hz
      split at hz
      · rename_i hnk
        simp only [Option.bind_eq_some_iff] at hz
        obtain ⟨b, hbq, hz⟩ := hz
        cases hz
        have := eqp_sound (neg := false) (ox := x) (oy := y) (P := P) (t := t) hs rfl k1 m1 hnk.1 hbq
        exact pureV hex this rfl (.bool _) (by simp [AV.top])
      · simp at hz
    · rename_i k hk hk0
      cases hc
      simp only [stepOp] at hz
      split at hz
      · rename_i hnk
        simp only [Option.bind_eq_some_iff] at hz
        obtain ⟨b, hbq, hz⟩ := hz
        cases hz
        have := eqp_sound (neg := true) (ox := x) (oy := y) (P := P) (t := t) hs rfl k1 m1 hnk.1 hbq
        exact pureV hex this rfl (.bool _) (by simp [AV.top])
      · simp at hz
    · simp at hc
  | unOp op t x =>
    simp only [hop, cOp, Option.bind_eq_some_iff] at hc
    obtain ⟨x', hx, hc⟩ := hc
    cases hc
    simp only [stepOp, Option.bind_eq_some_iff] at hz
    obtain ⟨v, hv, hz⟩ := hz
    cases hz
    obtain ⟨k1, k2⟩ := opd_sound hs hf hx
    obtain ⟨u, n1, n2, n3⟩ := un_sound (P := P) k1 hv
    exact pureV (by simp only [execOp, hop]) n1 rfl n2 (by omega)
  | fieldAddr t x f =>
    simp only [hop, cOp, Option.bind_eq_some_iff] at hc
    obtain ⟨x', hx, d, hd, hc⟩ := hc
    split at hc
    · simp only [Option.bind_eq_some_iff] at hc
      obtain ⟨fi, hfi, s, hsz, hc⟩ := hc
      split at hc
      · simp at hc
      · rename_i hs0
        cases hc
        simp only [stepOp, Option.bind_eq_some_iff] at hz
        obtain ⟨v, hv, hz⟩ := hz
        cases hz
        obtain ⟨k1, k2⟩ := opd_sound hs hf hx
        obtain ⟨u, n1, n2, n3⟩ := fieldA_sound (P := P) hd hfi hsz hs0 k1 hv
        exact pureV (by simp only [execOp, hop]) n1 rfl n2 (by omega)
    · simp at hc
  | field t x f =>
    simp only [hop, cOp, Option.bind_eq_some_iff] at hc
    obtain ⟨x', hx, d, hd, hc⟩ := hc
    split at hc
    · simp only [Option.bind_eq_some_iff] at hc
      obtain ⟨fi, hfi, s, hsh, hc⟩ := hc
      cases hc
      simp only [stepOp] at hz
      obtain ⟨k1, k2⟩ := opd_sound hs hf hx
      split at hz
      · rename_i cs hcs
        simp only [Option.bind_eq_some_iff] at hz
        obtain ⟨v, hv, hz⟩ := hz
        cases hz
        rw [hcs] at k1 k2
        obtain ⟨vs, h1, h2, h3⟩ := k1.agg_inv
        obtain ⟨u, n1, n2⟩ := part_run (P := P) hsh h2 h3 hv
        have hrun : (Instr.field t (a.eval x) f).run P w = .ok u w := by
          rw [h1]
          simp [Instr.field, run_underlying hd, hfi, asAgg, n1]
        exact pureV (by simp only [execOp, hop]) hrun rfl n2 (Nat.le_trans (takeCells_top hv) k2)
      · simp at hz
    · simp at hc
  | indexAddr t x i =>
    simp only [hop, cOp, Option.bind_eq_some_iff] at hc
    obtain ⟨x', hx, i', hi, d, hd, hc⟩ := hc
    obtain ⟨k1, k2⟩ := opd_sound hs hf hx
    obtain ⟨m1, m2⟩ := opd_sound hs hf hi
    split at hc
    · simp only [Option.bind_eq_some_iff] at hc
      obtain ⟨s, hsz, hc⟩ := hc
      split at hc
      · rename_i hsp
        cases hc
        simp only [stepOp, Option.bind_eq_some_iff] at hz
        obtain ⟨n, hn, v, hv, hz⟩ := hz
        cases hz
        obtain ⟨k, hk⟩ := getInt_inv hn
        rw [hk] at m1
        obtain ⟨u, n1, n2, n3⟩ := idxOf_sound (P := P) (k := k) hd hsz hsp k1 hv
        rw [← m1.int_inv] at n1
        exact pureV (by simp only [execOp, hop]) n1 rfl n2 (by omega)
      · simp at hc
    · simp only [Option.bind_eq_some_iff] at hc
      obtain ⟨s, hsz, hc⟩ := hc
      split at hc
      · rename_i hsp
        cases hc
        simp only [stepOp, Option.bind_eq_some_iff] at hz
        obtain ⟨n, hn, hz⟩ := hz
        split at hz
        · rename_i hbd
          simp only [Option.bind_eq_some_iff] at hz
          obtain ⟨v, hv, hz⟩ := hz
          cases hz
          obtain ⟨k, hk⟩ := getInt_inv hn
          rw [hk] at m1
          obtain ⟨u, n1, n2, n3⟩ := idxArr_sound (P := P) (k := k) hd hsz k1 hbd hv
          rw [← m1.int_inv] at n1
          exact pureV (by simp only [execOp, hop]) n1 rfl n2 (by omega)
        · simp at hz
      · simp at hc
    · simp at hc
  | makeMap t r =>
    cases r with
    | some r => simp [hop, cOp] at hc
    | none =>
      simp only [hop, cOp, Option.bind_eq_some_iff] at hc
      obtain ⟨⟨kd, e⟩, ht, hc⟩ := hc
      cases hc
      simp only [stepOp] at hz
      cases hz
      obtain ⟨ρ', w', u, m1, m2, m3, m4⟩ := makeMap_sound (P := P) (base := st.base) (esc := st.esc) hs hb (t := t) (kd := kd)
      exact wp_value (by simp only [execOp, hop, Option.map_none]) m1 (hnext ρ' w' u m2 m3 m4 (by simp [AV.top]))
  | insert t m k v =>
    simp only [hop, cOp, Option.bind_eq_some_iff] at hc
    obtain ⟨⟨kd, e⟩, ht, m', hm, k', hk, v', hv, hc⟩ := hc
    cases hc
    simp only [stepOp, Option.bind_eq_some_iff] at hz
    obtain ⟨h', hi, hz⟩ := hz
    cases hz
    obtain ⟨k1, k2⟩ := opd_sound hs hf hm
    obtain ⟨k3, k4⟩ := opd_sound hs hf hk
    obtain ⟨k5, k6⟩ := opd_sound hs hf hv
    obtain ⟨w', m1, m2, m3⟩ := insert_sound (P := P) hs rfl hb ht k1 k3 k5 k6 hi
    exact wp_unit (by simp only [execOp, hop]) m1 (hnext ρ w' undef m2 m3 (.undef _) (by simp [AV.top]))
  | mapUpdate t m k v =>
    simp only [hop, cOp, Option.bind_eq_some_iff] at hc
    obtain ⟨⟨kd, e⟩, ht, m', hm, k', hk, v', hv, hc⟩ := hc
    cases hc
    simp only [stepOp, Option.bind_eq_some_iff] at hz
    obtain ⟨h', hi, hz⟩ := hz
    cases hz
    obtain ⟨k1, k2⟩ := opd_sound hs hf hm
    obtain ⟨k3, k4⟩ := opd_sound hs hf hk
    obtain ⟨k5, k6⟩ := opd_sound hs hf hv
    obtain ⟨w', m1, m2, m3⟩ := insert_sound (P := P) hs rfl hb ht k1 k3 k5 k6 hi
    exact wp_unit (by simp only [execOp, hop]) m1 (hnext ρ w' undef m2 m3 (.undef _) (by simp [AV.top]))
  | lookup t x i ok =>
    simp only [hop, cOp, Option.bind_eq_some_iff] at hc
    obtain ⟨⟨kd, e⟩, ht, z, hzz, x', hx, i', hi, hc⟩ := hc
    cases hc
    simp only [stepOp, Option.bind_eq_some_iff] at hz
    obtain ⟨v, hv, hz⟩ := hz
    cases hz
    obtain ⟨k1, k2⟩ := opd_sound hs hf hx
    obtain ⟨k3, k4⟩ := opd_sound hs hf hi
    obtain ⟨u, m1, m2, m3⟩ := lookup_sound hs ht hzz k1 k3 hv
    exact pureV (by simp only [execOp, hop]) m1 rfl m2 m3
  | extract x i =>
    simp only [hop, cOp, Option.bind_eq_some_iff] at hc
    obtain ⟨x', hx, hc⟩ := hc
    cases hc
    simp only [stepOp] at hz
    obtain ⟨k1, k2⟩ := opd_sound hs hf hx
    split at hz
    · rename_i vs hvs
      simp only [Option.bind_eq_some_iff] at hz
      obtain ⟨v, hv, hz⟩ := hz
      cases hz
      rw [hvs] at k1 k2
      obtain ⟨us, h1, h2, h3⟩ := k1.tuple_inv
      have hi := lt_of_get hv
      have hu : us[i]? = some (us[i]'(by omega)) := by simp
      have hrun : (Instr.extract (a.eval x) i).run P w = .ok (us[i]'(by omega)) w := by
        rw [h1]
        simp only [Instr.extract, hu]
        rfl
      exact pureV (by simp only [execOp, hop]) hrun rfl (h3 i _ _ hv hu) (Nat.le_trans (top_le_topAll hv) k2)
    · simp at hz
  | convert src dst x =>
    simp only [hop, cOp, Option.bind_eq_some_iff] at hc
    obtain ⟨x', hx, us, hus, ud, hud, hc⟩ := hc
    obtain ⟨k1, k2⟩ := opd_sound hs hf hx
    have hex : execOp a.eval o = (do pure (Next.value (← convert src dst (a.eval x)))) := by simp only [execOp, hop]
    split at hc
    · -- int, int
      cases hc
      simp only [stepOp, convAV] at hz
      split at hz
      · rename_i k0 n heq
        cases hz
        rw [heq] at k1
        exact pureV hex (by rw [k1.int_inv]; simp [convert, run_underlying hus, run_underlying hud, Conv.intToInt]) rfl (.int _ _) (by simp [AV.top])
      · simp at hz
    · cases hc
      simp only [stepOp, convAV] at hz
      split at hz
      · rename_i k0 n heq
        cases hz
        rw [heq] at k1
        exact pureV hex (v := .string (Utf8.encode n)) (by rw [k1.int_inv]; simp [convert, run_underlying hus, run_underlying hud, Conv.intToString]) rfl (.str _ _ rfl) (by simp [AV.top])
      · simp at hz
    · cases hc
      simp only [stepOp, convAV] at hz
      split at hz
      · rename_i l heq
        cases hz
        rw [heq] at k1
        obtain ⟨S, hS, hl⟩ := k1.str_inv
        exact pureV hex (v := .string S) (by rw [hS]; simp [convert, run_underlying hus, run_underlying hud]) rfl (.str _ _ hl) (by simp [AV.top])
      · simp at hz
    · rename_i _ e0 e
      split at hc
      · rename_i hue
        split at hc
        · rename_i hsd
          have hsd : src = dst := by simpa using hsd
          subst hsd
          cases hc
          simp only [stepOp, convAV] at hz
          split at hz
          · rename_i b off len heq
            split at hz
            · rename_i s es hbk
              split at hz
              · rename_i hlen
                cases hz
                rw [heq] at k1
                obtain ⟨w', m1, m2, m3, m4⟩ := mark_sound (P := P) (base := st.base) (esc := st.esc) hs hud hue hbk hlen k1
                refine wp_value hex m1 (hnext ρ w' _ m2 m3 m4 ?_)
                simp only [AV.top, List.length_set]
                exact lt_of_get hbk
              · simp at hz
            · simp at hz
          · simp at hz
        · simp at hc
      · simp at hc
    · split at hc
      · rename_i e hue
        cases hc
        cases frz with
        | true =>
          simp only [if_true, stepOp, convAV] at hz
          split at hz
          · rename_i l heq
            cases hz
            rw [heq] at k1
            obtain ⟨S, hS, hl⟩ := k1.str_inv
            subst hl
            obtain ⟨w', u, m1, m2, m3, m4⟩ := frozenBytes_sound (base := st.base) (esc := st.esc) hs (s := S) hus hud hue
            rw [← hS] at m1
            exact wp_value hex m1 (hnext ρ w' u m2 m3 m4 (by simp [AV.top]))
          · simp at hz
        | false =>
          simp only [Bool.false_eq_true, if_false, stepOp, convAV] at hz
          split at hz
          · rename_i l heq
            cases hz
            rw [heq] at k1
            obtain ⟨S, hS, hl⟩ := k1.str_inv
            subst hl
            obtain ⟨ρ', w', u, m1, m2, m3, m4⟩ := strBytes_sound (base := st.base) (esc := st.esc) hs hb (s := S) hus hud hue
            rw [← hS] at m1
            exact wp_value hex m1 (hnext ρ' w' u m2 m3 m4 (by simp [AV.top]))
          · simp at hz
      · simp at hc
    · split at hc
      · rename_i e hue
        split at hc
        · cases hc
          simp only [stepOp, convAV, Option.bind_eq_some_iff] at hz
          obtain ⟨es, hes, bs, hbs, hz⟩ := hz
          cases hz
          obtain ⟨S, m1, m2⟩ := conv_bytesStr (P := P) hs hus hud hue k1 hes hbs
          exact pureV hex m1 rfl (.str _ _ m2) (by simp [AV.top])
        · simp at hc
      · rename_i e hue
        split at hc
        · cases hc
          simp only [stepOp, convAV, Option.bind_eq_some_iff] at hz
          obtain ⟨es, hes, bs, hbs, hz⟩ := hz
          cases hz
          obtain ⟨S, m1, m2⟩ := conv_runesStr (P := P) hs hus hud hue k1 hes hbs
          exact pureV hex m1 rfl (.str _ _ m2) (by simp [AV.top])
        · simp at hc
      · simp at hc
    · simp at hc
  | makeFunc fn first cap =>
    cases fn with
    | func f =>
      simp only [hop, cOp] at hc
      split at hc
      · rename_i hfe
        simp only [Option.bind_eq_some_iff] at hc
        obtain ⟨l, hl, hc⟩ := hc
        cases hc
        simp only [stepOp] at hz
        cases hz
        obtain ⟨h1, h2, h3⟩ := opds_sound hs hf hl
        have hfirst : first = #[] := by simpa using hfe
        subst hfirst
        have hex : execOp a.eval o = (do pure (Next.value (← (pure (.func (.func f) #[] (cap.map a.eval)) : Sem Value)))) := by
          simp only [execOp, hop, Instr.makeFunc, Array.map_empty]
        refine pureV hex rfl rfl (.func _ _ _ (by simp [getAll, h1]) (fun i c v hc hv => h3 i c v hc (by simpa using hv))) h2
      · simp at hc
    | _ => simp [hop, cOp] at hc
  | slice t x lo hi mx =>
    simp only [hop, cOp, Option.bind_eq_some_iff] at hc
    obtain ⟨x', hx, lo', hlo, hi', hhi, mx', hmx, d, hd, hc⟩ := hc
    obtain ⟨k1, k2⟩ := opd_sound hs hf hx
    have a0 := oget_sound hs hf hmx
    have a1 := oget_sound hs hf hhi
    have a2 := oget_sound hs hf hlo
    have hex : execOp a.eval o = (do pure (Next.value (← Instr.sliceAt t (a.eval x) (lo.map a.eval) (hi.map a.eval) (mx.map a.eval)))) := by simp only [execOp, hop]
    split at hc
    · split at hc
      · rename_i hmn
        cases hc
        simp only [stepOp] at hz
        split at hz
        · rename_i s hxs
          simp only [Option.bind_eq_some_iff] at hz
          obtain ⟨hh, hhh, l, hl, hz⟩ := hz
          cases hz
          rw [hxs] at k1
          obtain ⟨S, hS, hSl⟩ := k1.str_inv
          subst hSl
          have hmx0 : mx.map a.eval = none := by
            cases mx with
            | none => rfl
            | some m => simp only [cOpt, Option.map_eq_some_iff] at hmx; obtain ⟨_, _, rfl⟩ := hmx; simp at hmn
          have hrun := sliceStr_run (P := P) hd hhh hl a1 a2
          rw [← hS, ← hmx0] at hrun
          exact pureV hex hrun rfl (.str _ _ (extract_list _ _ _)) (by simp [AV.top])
        · simp at hz
      · simp at hc
    · simp only [Option.bind_eq_some_iff] at hc
      obtain ⟨s, hsz, hc⟩ := hc
      split at hc
      · cases hc
        simp only [stepOp, Option.bind_eq_some_iff] at hz
        obtain ⟨v, hv, hz⟩ := hz
        cases hz
        obtain ⟨u, n1, n2, n3⟩ := slices_sound (P := P) hd hsz k1 hv a0 a1 a2
        exact pureV hex n1 rfl n2 (by omega)
      · simp at hc
    · simp at hc
  | index t x i =>
    simp only [hop, cOp, Option.bind_eq_some_iff] at hc
    obtain ⟨x', hx, i', hi, d, hd, hc⟩ := hc
    obtain ⟨k1, k2⟩ := opd_sound hs hf hx
    obtain ⟨m1, m2⟩ := opd_sound hs hf hi
    have hex : execOp a.eval o = (do pure (Next.value (← Instr.index t (a.eval x) (a.eval i)))) := by simp only [execOp, hop]
    split at hc
    · cases hc
      simp only [stepOp, Option.bind_eq_some_iff] at hz
      obtain ⟨n, hn, hz⟩ := hz
      obtain ⟨k, hk⟩ := getInt_inv hn
      rw [hk] at m1
      split at hz
      · rename_i s hxs
        split at hz
        · rename_i h0
          simp only [Option.bind_eq_some_iff] at hz
          obtain ⟨b, hbb, hz⟩ := hz
          cases hz
          rw [hxs] at k1
          obtain ⟨S, hS, hSl⟩ := k1.str_inv
          subst hSl
          have hgb : S[n.toNat]? = some b := by
            have hlt := lt_of_get hbb
            have hlt' : n.toNat < S.size := hlt
            rw [getElem?_pos S n.toNat hlt']
            rw [List.getElem?_eq_getElem hlt] at hbb
            exact hbb
          have hrun : (Instr.index t (a.eval x) (a.eval i)).run P w = .ok (.int .u8 b.toNat) w := by
            rw [hS, m1.int_inv]
            simp [Instr.index, run_underlying hd, asIntOf, h0, hgb]
          exact pureV hex hrun rfl (.int _ _) (by simp [AV.top, byteAV])
        · simp at hz
      · simp at hz
    · simp only [Option.bind_eq_some_iff] at hc
      obtain ⟨s, hsz, ag, hag, hc⟩ := hc
      cases hc
      simp only [stepOp, Option.bind_eq_some_iff] at hz
      obtain ⟨n, hn, hz⟩ := hz
      obtain ⟨k, hk⟩ := getInt_inv hn
      rw [hk] at m1
      split at hz
      · rename_i cs hcs
        split at hz
        · rename_i hbd
          simp only [Option.bind_eq_some_iff] at hz
          obtain ⟨v, hv, hz⟩ := hz
          cases hz
          rw [hcs] at k1 k2
          obtain ⟨vs, h1, h2, h3⟩ := k1.agg_inv
          rename_i N e _
          have hsh : shapeT P e = some (if ag = true then some s else none) := by
            simp only [shapeT, hag, Option.bind_some]
            cases ag <;> simp [hsz]
          obtain ⟨u, n1, n2⟩ := part_run (P := P) hsh h2 h3 hv
          have hrun : (Instr.index t (a.eval x) (a.eval i)).run P w = .ok u w := by
            rw [h1, m1.int_inv]
            simp [Instr.index, run_underlying hd, asIntOf, hbd, sizeOf_run hsz, n1]
          exact pureV hex hrun rfl n2 (Nat.le_trans (takeCells_top hv) k2)
        · simp at hz
      · simp at hz
    · simp at hc
  | range t x =>
    simp only [hop, cOp, Option.bind_eq_some_iff] at hc
    obtain ⟨x', hx, d, hd, hc⟩ := hc
    obtain ⟨k1, k2⟩ := opd_sound hs hf hx
    split at hc
    · cases hc
      simp only [stepOp] at hz
      split at hz
      · rename_i s hxs
        cases hz
        rw [hxs] at k1
        obtain ⟨S, hS, hSl⟩ := k1.str_inv
        subst hSl
        obtain ⟨ρ', w', u, m1, m2, m3, m4⟩ := rangeStr_sound (base := st.base) (esc := st.esc) (P := P) hs hb (s := S) hd
        rw [← hS] at m1
        exact wp_value (by simp only [execOp, hop]) m1 (hnext ρ' w' u m2 m3 m4 (by simp [AV.top]))
      · simp at hz
    · simp at hc
  | next x isS =>
    cases isS with
    | false => simp [hop, cOp] at hc
    | true =>
      simp only [hop, cOp, Option.bind_eq_some_iff] at hc
      obtain ⟨x', hx, hc⟩ := hc
      cases hc
      obtain ⟨k1, k2⟩ := opd_sound hs hf hx
      simp only [stepOp] at hz
      split at hz
      · rename_i b hxb
        rw [hxb] at k1
        split at hz
        · rename_i l p hsi
          have hns := nextStr_sound (base := st.base) (esc := st.esc) (P := P) (ty := o.type) hs hsi k1
          split at hz
          · rename_i hlt
            cases hz
            rw [if_pos hlt] at hns
            obtain ⟨w', u, m1, m2, m3, m4⟩ := hns
            exact wp_value (by simp only [execOp, hop]) m1 (hnext ρ w' u m2 m3 m4 (by simp [AV.top, topAll]))
          · rename_i hlt
            cases hz
            rw [if_neg hlt] at hns
            refine pureV (by simp only [execOp, hop]) hns rfl (.tuple _ _ rfl (fun i c v hc hv => ?_)) (by simp [AV.top, topAll])
            match i with
            | 0 => simp at hc hv; subst hc; subst hv; exact .bool _
            | k + 1 => simp at hc
        · simp at hz
      · simp at hz
  | call c =>
    obtain ⟨callee, args, argTypes⟩ := c
    cases callee with
    | value f =>
      simp only [hop, cOp, Option.bind_eq_some_iff] at hc
      obtain ⟨f', hf', l, hl, hc⟩ := hc
      cases hc
      obtain ⟨k1, k2⟩ := opd_sound hs hf hf'
      obtain ⟨h1, h2, h3⟩ := opds_sound hs hf hl
      simp only [stepOp] at hz
      split at hz
      · rename_i fi cap hfc
        simp only [Option.bind_eq_some_iff] at hz
        obtain ⟨p, hp, hz⟩ := hz
        obtain ⟨as, h'⟩ := p
        rw [hfc] at k1 k2
        obtain ⟨vs, hv1, hv2, hv3⟩ := k1.func_inv
        obtain ⟨ρ1, s1, st1, l1, l2, l3⟩ := solidAll_sound (base := st.base) (esc := st.esc) (getAll G st.fr l) ρ st.h h' (args.toList.map a.eval) as hs (by simp [getAll, h1]) (fun i c v hc hv => h3 i c v hc hv) h2 hp
        have hlen := st1.len
        have hasz : as.length = (args.map a.eval).size := by simpa using l1
        obtain ⟨⟨fn, hfn, hnm, hbd⟩, hcalls⟩ := hcf (limOf st) fi (as ++ cap) h' r H' hz ρ1 w (args.map a.eval ++ vs) s1 (by simp [l1, hv2]) (fun i x v hx hv => by
            by_cases hi : i < as.length
            · rw [List.getElem?_append_left hi] at hx
              rw [Array.getElem?_append_left (by omega)] at hv
              exact l2 i x v hx (by simpa using hv)
            · rw [List.getElem?_append_right (by omega)] at hx
              rw [Array.getElem?_append_right (by omega), ← hasz] at hv
              exact st1.rel (hv3 _ x v hx hv) (by have := top_le_topAll hx; simp [AV.top] at k2; omega)) (by
            rw [topAll_append]; simp [AV.top] at k2; omega)
        have hrun : (execOp a.eval o).run P w = .ok (.enter fi (args.map a.eval ++ vs)) w := by
          obtain ⟨bd, hbd'⟩ := Option.isSome_iff_exists.1 hbd
          simp only [execOp, hop, resolve, hv1, Deferred.ofValue, Sem.run_bind, Sem.run_pure, Result.andThen_ok, invoke, callFunc]
          have hnm' : ¬ fn.name = "runtime.NumGoroutine" := by simpa using hnm
          simp [hfn, hnm', hbd']
        unfold Oper.wp
        rw [hrun, Oper.upon_enter]
        refine hcalls.mono ?_
        rintro e w' ⟨v, ρ', esc', rfl, m1, m2, m3, m4, m5⟩
        exact hnext ρ' w' v m1 (st1.trans (m3.weaken (by omega) (fun l hl q hq => mayLay_lim (m2 l hl q hq)))) m4 m5
      · simp at hz
    | invoke => simp [hop, cOp] at hc
    | builtin b =>
      cases b with
      | len =>
        simp only [hop, cOp] at hc
        split at hc
        · rename_i x t hargs htys
          simp only [Option.bind_eq_some_iff] at hc
          obtain ⟨x', hx, d, hd, hc⟩ := hc
          obtain ⟨k1, k2⟩ := opd_sound hs hf hx
          have hargs' : args = #[x] := by cases args; simpa using hargs
          have htys' : argTypes = #[t] := by cases argTypes; simpa using htys
          subst hargs' htys'
          have hex : execOp a.eval o = (do pure (Next.value (← Builtin.len_ #[t] o.type #[a.eval x]))) := by
            simp only [execOp, hop, resolve, pure_bind, invoke, builtin, List.map_toArray, List.map_cons, List.map_nil]
          split at hc
          · cases hc
            simp only [stepOp] at hz
            split at hz
            · rename_i s hxs
              cases hz
              rw [hxs] at k1
              obtain ⟨S, hS, hSl⟩ := k1.str_inv
              subst hSl
              exact pureV hex (v := .int .i64 S.size) (by rw [hS]; simp [Builtin.len_, run_underlying hd, goInt]) rfl (.int _ _) (by simp [AV.top])
            · simp at hz
          · cases hc
            simp only [stepOp, Option.bind_eq_some_iff] at hz
            obtain ⟨es, hes, hz⟩ := hz
            cases hz
            obtain ⟨_, ⟨h1, h2⟩ | ⟨A, cap, s, h1, _⟩⟩ := elems_sound hs k1 hes
            · subst h2
              exact pureV hex (v := .int .i64 0) (by rw [h1]; simp [Builtin.len_, run_underlying hd, goInt]) rfl (.int _ _) (by simp [AV.top])
            · exact pureV hex (v := .int .i64 es.length) (by rw [h1]; simp [Builtin.len_, run_underlying hd, goInt]) rfl (.int _ _) (by simp [AV.top])
          · simp at hc
        · simp at hc
      | append =>
        simp only [hop, cOp] at hc
        split at hc
        · rename_i x y t u hargs htys
          simp only [Option.bind_eq_some_iff] at hc
          obtain ⟨x', hx, y', hy, d, hd, hc⟩ := hc
          obtain ⟨k1, k2⟩ := opd_sound hs hf hx
          obtain ⟨m1, m2⟩ := opd_sound hs hf hy
          have hargs' : args = #[x, y] := by cases args; simpa using hargs
          have htys' : argTypes = #[t, u] := by cases argTypes; simpa using htys
          subst hargs' htys'
          split at hc
          · simp only [Option.bind_eq_some_iff] at hc
            obtain ⟨i, hi, z, hzt, uu, huu, hc⟩ := hc
            split at hc
            · rename_i hcc
              cases hc
              simp only [stepOp] at hz
              obtain ⟨ρ', w', v, n1, n2, n3, n4, n5⟩ := append_sound (P := P) (ty := o.type) hs st rfl rfl rfl hb hd huu hcc.2.2 hi hzt hcc.2.1 hcc.1 k1 k2 m1 hz
              exact wp_value (by simp only [execOp, hop, resolve, pure_bind, invoke, builtin, List.map_toArray, List.map_cons, List.map_nil]) n1 (hnext ρ' w' v n2 n3 n4 n5)
            · simp at hc
          · simp at hc
        · simp at hc
      | min =>
        simp only [hop, cOp] at hc
        split at hc
        · rename_i x y hargs
          simp only [Option.bind_eq_some_iff] at hc
          obtain ⟨x', hx, y', hy, hc⟩ := hc
          cases hc
          obtain ⟨k1, k2⟩ := opd_sound hs hf hx
          obtain ⟨m1, m2⟩ := opd_sound hs hf hy
          have hargs' : args = #[x, y] := by cases args; simpa using hargs
          subst hargs'
          simp only [stepOp] at hz
          split at hz
          · rename_i k p k' q hxx hyy
            cases hz
            rw [hxx] at k1; rw [hyy] at m1
            have hex : execOp a.eval o = (do pure (Next.value (← Builtin.min_ argTypes o.type #[a.eval x, a.eval y]))) := by
              simp only [execOp, hop, resolve, pure_bind, invoke, builtin, List.map_toArray, List.map_cons, List.map_nil]
            exact pureV hex (v := .int k (if q < p then q else p)) (by rw [k1.int_inv, m1.int_inv]; simp [Builtin.min_, Builtin.min2]) rfl (.int _ _) (by simp [AV.top])
          · simp at hz
        · simp at hc
      | max =>
        simp only [hop, cOp] at hc
        split at hc
        · rename_i x y hargs
          simp only [Option.bind_eq_some_iff] at hc
          obtain ⟨x', hx, y', hy, hc⟩ := hc
          cases hc
          obtain ⟨k1, k2⟩ := opd_sound hs hf hx
          obtain ⟨m1, m2⟩ := opd_sound hs hf hy
          have hargs' : args = #[x, y] := by cases args; simpa using hargs
          subst hargs'
          simp only [stepOp] at hz
          split at hz
          · rename_i k p k' q hxx hyy
            cases hz
            rw [hxx] at k1; rw [hyy] at m1
            have hex : execOp a.eval o = (do pure (Next.value (← Builtin.max_ argTypes o.type #[a.eval x, a.eval y]))) := by
              simp only [execOp, hop, resolve, pure_bind, invoke, builtin, List.map_toArray, List.map_cons, List.map_nil]
            exact pureV hex (v := .int k (if p < q then q else p)) (by rw [k1.int_inv, m1.int_inv]; simp [Builtin.max_, Builtin.max2]) rfl (.int _ _) (by simp [AV.top])
          · simp at hz
        · simp at hc
      | _ => simp [hop, cOp] at hc
  | _ => simp [hop, cOp] at hc
end
end Go.Av
