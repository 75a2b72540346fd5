/-
  The evaluator's operations do what the model's do: values, and reading.
-/
import Derived.Test.YtnnclgadfbaldaaGreatDoorAvA
import Derived.Laws.Strings
import Derived.Laws.Concat
import Derived.Laws.Pointers
import Derived.Laws.Cover3
import Derived.Laws.Cover4
import Derived.Laws.IdiomStrings
import Derived.WalkSpells
import Derived.Laws.Tables
namespace Go.Av
section
variable {G : Nat → Option (List AV)} {base : Nat} {esc : Option (List Nat)} {ρ ρ' : Nat → Option Nat} {H H' : List Blk} {w w' : World} {P : Program}

theorem AV.top_le_of {a : AV} {n : Nat} (h : a.top = 0) : a.top ≤ n := by omega

section inv
variable {I : Nat → Prop} {R : AV → Value → Prop}
theorem Rel.int_inv {k : IntKind} {n : Int} {v : Value} (h : Rel I R w (.int k n) v) : v = .int k n := by
  cases h with
  | int => rfl
  | ref _ _ h => simp [AV.isRef] at h
theorem Rel.bool_inv {b : Bool} {v : Value} (h : Rel I R w (.bool b) v) : v = .bool b := by
  cases h with
  | bool => rfl
  | ref _ _ h => simp [AV.isRef] at h
theorem Rel.str_inv {l : List UInt8} {v : Value} (h : Rel I R w (.str l) v) : ∃ s : ByteArray, v = .string s ∧ s.data.toList = l := by
  cases h with
  | str s l h => exact ⟨s, rfl, h⟩
  | ref _ _ h => simp [AV.isRef] at h
theorem Rel.nilptr_inv {v : Value} (h : Rel I R w .nilptr v) : v = .pointer none := by
  cases h with
  | nilptr => rfl
  | ref _ _ h => simp [AV.isRef] at h
theorem Rel.nilslice_inv {v : Value} (h : Rel I R w .nilslice v) : v = .slice none 0 0 := by
  cases h with
  | nilslice => rfl
  | ref _ _ h => simp [AV.isRef] at h
theorem Rel.nilfunc_inv {v : Value} (h : Rel I R w .nilfunc v) : v = .nilFunc := by
  cases h with
  | nilfunc => rfl
  | ref _ _ h => simp [AV.isRef] at h
theorem Rel.nilmap_inv {v : Value} (h : Rel I R w .nilmap v) : v = .map none := by
  cases h with
  | nilmap => rfl
  | ref _ _ h => simp [AV.isRef] at h
theorem Rel.nilif_inv {v : Value} (h : Rel I R w .nilif v) : v = .nilIface := by
  cases h with
  | nilif => rfl
  | ref _ _ h => simp [AV.isRef] at h
theorem Rel.agg_inv {cs : List AV} {v : Value} (h : Rel I R w (.agg cs) v) : ∃ vs : Array Value, v = .agg vs ∧ cs.length = vs.size ∧ ∀ (i : Nat) (c : AV) (v : Value), cs[i]? = some c → vs[i]? = some v → Rel I R w c v := by
  cases h with
  | agg _ vs hl hr => exact ⟨vs, rfl, hl, hr⟩
  | ref _ _ h => simp [AV.isRef] at h
theorem Rel.tuple_inv {cs : List AV} {v : Value} (h : Rel I R w (.tuple cs) v) : ∃ vs : Array Value, v = .tuple vs ∧ cs.length = vs.size ∧ ∀ (i : Nat) (c : AV) (v : Value), cs[i]? = some c → vs[i]? = some v → Rel I R w c v := by
  cases h with
  | tuple _ vs hl hr => exact ⟨vs, rfl, hl, hr⟩
  | ref _ _ h => simp [AV.isRef] at h
theorem Rel.func_inv {f : Nat} {cs : List AV} {v : Value} (h : Rel I R w (.func f cs) v) : ∃ vs : Array Value, v = .func (.func f) #[] vs ∧ cs.length = vs.size ∧ ∀ (i : Nat) (c : AV) (v : Value), cs[i]? = some c → vs[i]? = some v → Rel I R w c v := by
  cases h with
  | func _ _ vs hl hr => exact ⟨vs, rfl, hl, hr⟩
  | ref _ _ h => simp [AV.isRef] at h
theorem Rel.ref_inv {a : AV} {v : Value} (h : Rel I R w a v) (ha : a.isRef = true) : R a v ∧ v.oneCell' = true := by
  cases h with
  | ref _ _ _ ho hr => exact ⟨hr, ho⟩
  | _ => simp [AV.isRef] at ha
theorem Rel.iptr_inv {cs : List AV} {off : Nat} {v : Value} (h : Rel I R w (.iptr cs off) v) : ∃ (β o : Nat) (f : Nat → Value), v = .pointer (some ⟨β, o + off, none⟩) ∧ (cs ≠ [] → I β) ∧
    (∀ j, j < cs.length → w.cell? ⟨β, o + j, none⟩ = some (f j)) ∧ topAll cs = 0 ∧ (∀ j c, cs[j]? = some c → Rel I R w c (f j)) := by
  cases h with
  | iptr _ _ β o f h1 h2 h3 h4 => exact ⟨β, o, f, rfl, h1, h2, h3, h4⟩
  | ref _ _ h => simp [AV.isRef] at h
theorem Rel.slice_inv {x : Bool} {es : List AV} {v : Value} (h : Rel I R w (.slice x es) v) : ∃ (a : Addr) (len cap s : Nat) (f : Nat → Nat → Value), v = .slice (some a) len cap ∧ len = es.length ∧ len ≤ cap ∧ (x = true → cap = len) ∧ topAll es = 0 ∧
    sized s es = true ∧ 0 < s ∧ (len ≠ 0 → a.spot = none ∧ I a.block) ∧ (∀ i j, i < len → j < s → w.cell? ⟨a.block, a.off + i * s + j, none⟩ = some (f i j)) ∧
    (∀ i e cs j c, es[i]? = some e → e.cells = some cs → cs[j]? = some c → Rel I R w c (f i j)) := by
  cases h with
  | slice _ _ a len cap s f h1 h2 h3 h5 h6 h7 h8 h9 h10 => exact ⟨a, len, cap, s, f, rfl, h1, h2, h3, h5, h6, h7, h8, h9, h10⟩
  | ref _ _ h => simp [AV.isRef] at h
end inv

theorem toAV0_rel {v : Value} {a : AV} (h : toAV0 v = some a) : Rel0 ρ w a v ∧ a.top = 0 ∧ isCell a = true := by
  unfold toAV0 at h
  split at h <;> simp at h <;> subst h
  · exact ⟨.bool _, rfl, rfl⟩
  · exact ⟨.int _ _, rfl, rfl⟩
  · exact ⟨.str _ _ rfl, rfl, rfl⟩
  · exact ⟨.nilptr, rfl, rfl⟩
  · exact ⟨.nilslice, rfl, rfl⟩
  · exact ⟨.nilmap, rfl, rfl⟩
  · exact ⟨.nilfunc, rfl, rfl⟩
  · exact ⟨.nilif, rfl, rfl⟩

theorem allAV0_rel {vs : List Value} {l : List AV} (h : allAV0 vs = some l) : l.length = vs.length ∧ topAll l = 0 ∧ (∀ (i : Nat) a v, l[i]? = some a → vs[i]? = some v → Rel0 ρ w a v ∧ isCell a = true) := by
  induction vs generalizing l with
  | nil => simp [allAV0] at h; subst h; simp [topAll]
  | cons v r ih =>
    simp only [allAV0, Option.bind_eq_some_iff] at h
    obtain ⟨a, ha, l', hl', h⟩ := h
    simp at h; subst h
    obtain ⟨h1, h2, h3⟩ := ih hl'
    obtain ⟨k1, k2, k3⟩ := toAV0_rel (ρ := ρ) (w := w) ha
    refine ⟨by simp [h1], by simp [topAll, h2, k2], fun i a' v' hi hv => ?_⟩
    cases i with
    | zero => simp at hi hv; subst hi; subst hv; exact ⟨k1, k3⟩
    | succ i => exact h3 i a' v' (by simpa using hi) (by simpa using hv)

theorem toAV_rel {v : Value} {a : AV} (h : toAV v = some a) : Rel0 ρ w a v ∧ a.top = 0 := by
  unfold toAV at h
  split at h
  · simp only [Option.map_eq_some_iff] at h
    obtain ⟨l, hl, rfl⟩ := h
    obtain ⟨h1, h2, h3⟩ := allAV0_rel (ρ := ρ) (w := w) hl
    exact ⟨.agg _ _ (by simpa using h1) (fun i c v hi hv => (h3 i c v hi (by simpa using hv)).1), h2⟩
  · obtain ⟨h1, h2, _⟩ := toAV0_rel (ρ := ρ) (w := w) h
    exact ⟨h1, h2⟩

/-- A call's temporaries, as the evaluator has them. -/
def FrRel (ρ : Nat → Option Nat) (H : List Blk) (w : World) (fr : List (Nat × AV)) (tmps : Array Value) : Prop :=
  ∀ t, RelH ρ H w (fget fr t) (tmps.getD t undef) ∧ (fget fr t).top ≤ H.length

theorem FrRel.step {fr : List (Nat × AV)} {tmps : Array Value} (hf : FrRel ρ H w fr tmps) (h : Step base esc ρ H w ρ' H' w') : FrRel ρ' H' w' fr tmps := fun t =>
  ⟨h.rel (hf t).1 (hf t).2, Nat.le_trans (hf t).2 h.len⟩

theorem opd_sound {fr : List (Nat × AV)} {a : Act} (hs : Sim G ρ H w) (hf : FrRel ρ H w fr a.tmps) {o : Operand} {x : Opd} (hc : cOpd o = some x) :
    RelH ρ H w (x.get G fr) (a.eval o) ∧ (x.get G fr).top ≤ H.length := by
  cases o with
  | tmp t => simp [cOpd] at hc; subst hc; exact hf t
  | const v =>
    simp only [cOpd, Option.map_eq_some_iff] at hc
    obtain ⟨b, hb, rfl⟩ := hc
    obtain ⟨h1, h2⟩ := toAV_rel (ρ := ρ) (w := w) hb
    exact ⟨h1.of0, by simp only [Opd.get]; omega⟩
  | global g =>
    simp [cOpd] at hc; subst hc
    simp only [Opd.get]
    cases hg : G g with
    | none => exact ⟨.undef _, by simp [AV.top]⟩
    | some cs => exact ⟨(hs.glob g cs hg).of0, by simp [AV.top]⟩
  | func f =>
    simp [cOpd] at hc; subst hc
    exact ⟨.func f [] #[] rfl (fun i c v h => by simp at h), by simp [Opd.get, AV.top, topAll]⟩

/-- What an operation comes to. -/
def OpOk (G : Nat → Option (List AV)) (base : Nat) (esc : Option (List Nat)) (ρ : Nat → Option Nat) (H : List Blk) (w : World) (r : Result Next) (x : AV) (H' : List Blk) : Prop :=
  ∃ ρ' w', Sim G ρ' H' w' ∧ Step base esc ρ H w ρ' H' w' ∧ x.top ≤ H'.length ∧ ((∃ v, r = .ok (.value v) w' ∧ RelH ρ' H' w' x v) ∨ (r = .ok .skip w' ∧ x = .undef))

theorem OpOk.pure (hs : Sim G ρ H w) {r : Result Next} {x : AV} {v : Value} (hr : r = .ok (.value v) w) (hx : RelH ρ H w x v) (ht : x.top ≤ H.length) : OpOk G base esc ρ H w r x H :=
  ⟨ρ, w, hs, .refl, ht, .inl ⟨v, hr, hx⟩⟩

/-- Cells that lie in a row, and what stands for them. -/
def Win (ρ : Nat → Option Nat) (H : List Blk) (w : World) (β o : Nat) (cs : List AV) : Prop := ∀ (j : Nat) x, cs[j]? = some x → ∃ v, w.cell? ⟨β, o + j, none⟩ = some v ∧ RelH ρ H w x v

theorem isAgg_run {t : TypeId} {b : Bool} (h : isAggT P t = some b) : (isAgg t).run P w = .ok b w := by
  unfold isAggT at h
  simp only [Option.map_eq_some_iff] at h
  obtain ⟨d, hd, h⟩ := h
  subst h
  simp only [isAgg, Sem.run_bind, run_underlying hd, Result.andThen_ok]
  cases d <;> simp

theorem sizeOf_run {t : TypeId} {s : Nat} (h : sizeT P t = some s) : (sizeOf t).run P w = .ok s w := by
  unfold sizeT at h
  simp only [Option.map_eq_some_iff] at h
  obtain ⟨i, hi, h⟩ := h
  subst h
  simp [sizeOf, typeInfo, hi]

theorem Addr.add_none (β o n : Nat) : (⟨β, o, none⟩ : Addr).add n = ⟨β, o + n, none⟩ := by
  unfold Addr.add
  split
  · subst_vars; rfl
  · rfl

theorem loadCells_run {β o : Nat} {cs : List AV} (hw : Win ρ H w β o cs) :
    ∃ vs : Array Value, (loadCells ⟨β, o, none⟩ cs.length).run P w = .ok vs w ∧ vs.size = cs.length ∧ (∀ (j : Nat) x v, cs[j]? = some x → vs[j]? = some v → RelH ρ H w x v) ∧ (∀ (j : Nat) v, vs[j]? = some v → w.cell? ⟨β, o + j, none⟩ = some v) := by
  refine ⟨((List.range cs.length).map fun j => (w.cell? ⟨β, o + j, none⟩).getD undef).toArray, run_loadCells w _ _ _ (fun j hj => ?_), by simp, fun j x v hx hv => ?_, fun j v hv => ?_⟩
  · obtain ⟨v, hv, _⟩ := hw j cs[j] (by simp [hj])
    rw [Addr.add_none, hv]; rfl
  · obtain ⟨v', hv', hr⟩ := hw j x hx
    have hj := lt_of_get hx
    simp [hj, hv'] at hv
    subst hv
    exact hr
  · have hj : j < cs.length := by
      rcases Nat.lt_or_ge j cs.length with h | h
      · exact h
      · simp [Nat.not_lt.2 h] at hv
    obtain ⟨v', hv', hr⟩ := hw j cs[j] (by simp [hj])
    simp [hj, hv'] at hv
    subst hv
    exact hv'

theorem Win.sub {β o : Nat} {cs : List AV} (hw : Win ρ H w β o cs) (off n : Nat) : Win ρ H w β (o + off) ((cs.drop off).take n) := by
  intro j x hx
  rw [List.getElem?_take] at hx
  split at hx
  · rw [List.getElem?_drop] at hx
    obtain ⟨v, hv, hr⟩ := hw _ _ hx
    exact ⟨v, by rw [Nat.add_assoc]; exact hv, hr⟩
  · simp at hx

theorem loadVar_run {t : TypeId} {s : Option Nat} {β o off : Nat} {cs : List AV} {x : AV} (ht : shapeT P t = some s) (hw : Win ρ H w β o cs) (hx : takeCells cs off s = some x) :
    ∃ v, (loadVar t ⟨β, o + off, none⟩).run P w = .ok v w ∧ RelH ρ H w x v := by
  simp only [shapeT, Option.bind_eq_some_iff] at ht
  obtain ⟨b, hb, ht⟩ := ht
  cases b with
  | false =>
    simp at ht; subst ht
    simp only [takeCells] at hx
    obtain ⟨v, hv, hr⟩ := hw off x hx
    refine ⟨v, ?_, hr⟩
    simp [loadVar, isAgg_run hb, hv]
  | true =>
    simp only [Option.map_eq_some_iff] at ht
    obtain ⟨n, hn, rfl⟩ := ht
    simp only [takeCells] at hx
    split at hx
    · rename_i hle
      simp at hx; subst hx
      obtain ⟨vs, h1, h2, h3, _⟩ := loadCells_run (P := P) (hw.sub off n)
      have hlen : ((cs.drop off).take n).length = n := by simp; omega
      rw [hlen] at h1 h2
      refine ⟨.agg vs, ?_, .agg _ _ (by rw [hlen, h2]) (fun i c v hc hv => h3 i c v hc hv)⟩
      simp [loadVar, isAgg_run hb, sizeOf_run hn, h1]
    · simp at hx

theorem takeCells_top {cs : List AV} {off : Nat} {s : Option Nat} {x : AV} (h : takeCells cs off s = some x) : x.top ≤ topAll cs := by
  cases s with
  | none => exact top_le_topAll h
  | some s =>
    simp only [takeCells] at h
    split at h
    · simp at h; subst h; exact Nat.le_trans (topAll_take _ _) (topAll_drop _ _)
    · simp at h

/-- Where a value that is an address leads. -/
theorem load_sound (hs : Sim G ρ H w) {t : TypeId} {s : Option Nat} {a x : AV} {v : Value} (ht : shapeT P t = some s) (hr : RelH ρ H w a v) (hx : loadAV H s a = some x) :
    ∃ u, (Instr.loadAt t v).run P w = .ok u w ∧ RelH ρ H w x u ∧ x.top ≤ H.length := by
  cases a with
  | mptr b off =>
    simp only [loadAV] at hx
    split at hx
    · rename_i ty cs hcs
      obtain ⟨β, hβ, rfl⟩ := (hr.ref_inv rfl).1 ty cs hcs
      obtain ⟨β', c, h1, h2, h3, h4⟩ := hs.blk b _ hcs
      rw [hβ] at h1; simp at h1; subst h1
      have hw : Win ρ H w β 0 cs := fun j y hy => by
        obtain ⟨u, hu, hr'⟩ := h4 j y hy
        exact ⟨u, by simp [World.cell?, h2, hu], hr'⟩
      obtain ⟨u, h5, h6⟩ := loadVar_run (P := P) ht hw hx
      refine ⟨u, ?_, h6, Nat.le_trans (takeCells_top hx) (hs.tops b _ (lt_of_get hcs) hcs)⟩
      simpa [Instr.loadAt, Instr.sureAddr] using h5
    · simp at hx
  | eptr b n i off =>
    simp only [loadAV] at hx
    split at hx
    · rename_i g z es hes
      split at hx
      · rename_i hn
        simp only [Option.bind_eq_some_iff] at hx
        obtain ⟨el, hel, cs, hcs, hx⟩ := hx
        obtain ⟨β, hβ, rfl⟩ := ((hr.ref_inv rfl).1 g z es hes).2 hn.symm
        obtain ⟨β', c, e, fz, h1, h2, _, _, _, _, _, h4⟩ := hs.blk b _ hes
        rw [hβ] at h1; simp at h1; subst h1
        have hw : Win ρ H w β (i * z) cs := fun j y hy => by
          obtain ⟨u, hu, hr'⟩ := h4 i el cs j y hel hcs hy
          exact ⟨u, by simp [World.cell?, h2, hu], hr'⟩
        obtain ⟨u, h5, h6⟩ := loadVar_run (P := P) ht hw hx
        refine ⟨u, ?_, h6, ?_⟩
        · simpa [Instr.loadAt, Instr.sureAddr] using h5
        · have a1 := takeCells_top hx
          have a2 := top_cells hcs
          have a3 := top_le_topAll hel
          have a4 := hs.tops b _ (lt_of_get hes) hes
          have : (Blk.arr g z es).top = topAll es := rfl
          omega
      · simp at hx
    · simp at hx
  | iptr cs off =>
    simp only [loadAV] at hx
    obtain ⟨β, o, f, rfl, h1, h2, h3, h4⟩ := hr.iptr_inv
    have hw : Win ρ H w β o cs := fun j y hy => ⟨f j, h2 j (lt_of_get hy), h4 j y hy⟩
    obtain ⟨u, h5, h6⟩ := loadVar_run (P := P) ht hw hx
    refine ⟨u, ?_, h6, Nat.le_trans (takeCells_top hx) (by omega)⟩
    simpa [Instr.loadAt, Instr.sureAddr] using h5
  | _ => simp [loadAV] at hx
end
end Go.Av

/-
  The evaluator's operations do what the model's do: arithmetic, comparisons, conversions, slices and indexes.
-/
namespace Go.Av
section
variable {G : Nat → Option (List AV)} {base : Nat} {esc : Option (List Nat)} {ρ ρ' : Nat → Option Nat} {H H' : List Blk} {w w' : World} {P : Program}

theorem bytesLess_eq (x y : List UInt8) : Op.bytesLess x y = bytesLess x y := by
  induction x generalizing y with
  | nil => cases y <;> rfl
  | cons a x ih => cases y with
    | nil => rfl
    | cons b y => simp [Op.bytesLess, bytesLess, ih]

theorem bin_sound {op : BinOp} {t : TypeId} {ox oy : Operand} {x y z : AV} {v u : Value} (hx : RelH ρ H w x v) (hy : RelH ρ H w y u) (hz : binAV op x y = some z) :
    ∃ r, (do eqGuard op t ox oy v u; binOp op t v u : Sem Value).run P w = .ok r w ∧ RelH ρ H w z r ∧ z.top = 0 := by
  unfold binAV at hz
  split at hz
  · -- shl
    obtain rfl := hx.int_inv
    obtain rfl := hy.int_inv
    unfold binShift at hz
    split at hz
    · simp at hz
    · rename_i hb
      cases hz
      exact ⟨_, by simp [eqGuard, binOp, Op.shift, hb], .int _ _, rfl⟩
  · obtain rfl := hx.int_inv
    obtain rfl := hy.int_inv
    unfold binShift at hz
    split at hz
    · simp at hz
    · rename_i hb
      cases hz
      exact ⟨_, by simp [eqGuard, binOp, Op.shift, hb], .int _ _, rfl⟩
  · rename_i k a k' b hn1 hn2
    obtain rfl := hx.int_inv
    obtain rfl := hy.int_inv
    split at hz
    · rename_i hk
      subst hk
      cases op <;> simp only [binInt] at hz
      case shl => simp at hz
      case shr => simp at hz
      case quo =>
        split at hz
        · simp at hz
        · rename_i hb
          cases hz
          exact ⟨_, by simp [eqGuard, binOp, Op.intDiv, hb], .int _ _, rfl⟩
      case rem =>
        split at hz
        · simp at hz
        · rename_i hb
          cases hz
          exact ⟨_, by simp [eqGuard, binOp, Op.intDiv, hb], .int _ _, rfl⟩
      case add => cases hz; exact ⟨_, by simp [eqGuard, binOp, Op.intArith], .int _ _, rfl⟩
      case sub => cases hz; exact ⟨_, by simp [eqGuard, binOp, Op.intArith], .int _ _, rfl⟩
      case mul => cases hz; exact ⟨_, by simp [eqGuard, binOp, Op.intArith], .int _ _, rfl⟩
      case and => cases hz; exact ⟨_, by (simp only [eqGuard, binOp]; simp only [ne_eq, not_true_eq_false, if_false]; rfl), .int _ _, rfl⟩
      case or => cases hz; exact ⟨_, by (simp only [eqGuard, binOp]; simp only [ne_eq, not_true_eq_false, if_false]; rfl), .int _ _, rfl⟩
      case xor => cases hz; exact ⟨_, by (simp only [eqGuard, binOp]; simp only [ne_eq, not_true_eq_false, if_false]; rfl), .int _ _, rfl⟩
      case andNot => cases hz; exact ⟨_, by (simp only [eqGuard, binOp]; simp only [ne_eq, not_true_eq_false, if_false]; rfl), .int _ _, rfl⟩
      case eql => cases hz; exact ⟨_, by simp [eqGuard, binOp, Op.intCmp], .bool _, rfl⟩
      case neq => cases hz; exact ⟨_, by simp [eqGuard, binOp, Op.intCmp], .bool _, rfl⟩
      case lss => cases hz; exact ⟨_, by simp [eqGuard, binOp, Op.intCmp], .bool _, rfl⟩
      case leq => cases hz; exact ⟨_, by simp [eqGuard, binOp, Op.intCmp], .bool _, rfl⟩
      case gtr => cases hz; exact ⟨_, by simp [eqGuard, binOp, Op.intCmp], .bool _, rfl⟩
      case geq => cases hz; exact ⟨_, by simp [eqGuard, binOp, Op.intCmp], .bool _, rfl⟩
    · simp at hz
  · rename_i a b
    obtain ⟨s, rfl, rfl⟩ := hx.str_inv
    obtain ⟨s', rfl, rfl⟩ := hy.str_inv
    cases op <;> simp only [binStr] at hz
    case add =>
      split at hz
      · rename_i hle
        cases hz
        refine ⟨.string (s ++ s'), ?_, .str _ _ (by simp), rfl⟩
        have hle' : s.size + s'.size ≤ 9223372036854775807 := hle
        have := run_string_add_sum (P := P) w s s' hle'
        simp [eqGuard, binOp, this]
      · simp at hz
    all_goals
      first | (cases hz; done) | cases hz
    all_goals
      exact ⟨_, by simp [eqGuard, binOp, Op.stringOp, ByteArray.toList_eq, bytesLess_eq], .bool _, rfl⟩
  · simp at hz

theorem un_sound {op : UnOp} {x z : AV} {v : Value} (hx : RelH ρ H w x v) (hz : unAV op x = some z) : ∃ r, (Op.unary op v).run P w = .ok r w ∧ RelH ρ H w z r ∧ z.top = 0 := by
  unfold unAV at hz
  split at hz
  · obtain rfl := hx.int_inv
    cases hz
    exact ⟨_, by simp [Op.unary, Op.intArith], .int _ _, rfl⟩
  · obtain rfl := hx.bool_inv
    cases hz
    exact ⟨_, by simp [Op.unary], .bool _, rfl⟩
  · simp at hz

theorem sized_get {s : Nat} {es : List AV} (h : sized s es = true) {i : Nat} {e : AV} (he : es[i]? = some e) : ∃ cs, e.cells = some cs ∧ cs.length = s ∧ cs.all isCell = true := by
  unfold sized at h
  rw [List.all_eq_true] at h
  have := h e (List.mem_of_getElem? he)
  split at this
  · rename_i cs hcs
    simp at this
    exact ⟨cs, hcs, this.1, by simpa using this.2⟩
  · simp at this

theorem sized_sub {s : Nat} {es es' : List AV} (h : sized s es = true) (hsub : ∀ e ∈ es', e ∈ es) : sized s es' = true := by
  unfold sized at *
  rw [List.all_eq_true] at *
  exact fun e he => h e (hsub e he)

theorem Win.mk0 {β : Nat} {c : Array Value} {e : TypeId} {fz : Nat × Nat} {cs : List AV} {o : Nat} (h : w.heap[β]? = some (.cells c e fz)) (hc : ∀ (j : Nat) x, cs[j]? = some x → ∃ v, c[o + j]? = some v ∧ RelH ρ H w x v) : Win ρ H w β o cs :=
  fun j x hx => by
    obtain ⟨v, hv, hr⟩ := hc j x hx
    exact ⟨v, by simp [World.cell?, h, hv], hr⟩

/-- A slice that can be read: where its elements lie. -/
theorem elems_sound (hs : Sim G ρ H w) {a : AV} {v : Value} {es : List AV} (hr : RelH ρ H w a v) (he : elemsOf H a = some es) :
    topAll es ≤ H.length ∧ ((v = .slice none 0 0 ∧ es = []) ∨ ∃ (A : Addr) (cap s : Nat), v = .slice (some A) es.length cap ∧ es.length ≤ cap ∧ 0 < s ∧ sized s es = true ∧ (es ≠ [] → A.spot = none) ∧
      ∀ (i : Nat) el cs, es[i]? = some el → el.cells = some cs → Win ρ H w A.block (A.off + i * s) cs) := by
  cases a with
  | nilslice =>
    simp [elemsOf] at he; subst he
    exact ⟨by simp [topAll], .inl ⟨hr.nilslice_inv, rfl⟩⟩
  | slice x es' =>
    simp [elemsOf] at he; subst he
    obtain ⟨A, len, cap, s, f, rfl, h1, h2, h3, h5, h6, h7, h8, h9, h10⟩ := hr.slice_inv
    subst h1
    refine ⟨by omega, .inr ⟨A, cap, s, rfl, h2, h7, h6, fun hne => (h8 (by simpa using hne)).1, fun i el cs hel hcs j x hx => ?_⟩⟩
    obtain ⟨cs', hcs', hlen, _⟩ := sized_get h6 hel
    rw [hcs] at hcs'; simp at hcs'; subst hcs'
    have hi := lt_of_get hel
    have hj := lt_of_get hx
    exact ⟨f i j, h9 i j hi (by omega), h10 i el cs j x hel hcs hx⟩
  | mslice b off len =>
    simp only [elemsOf] at he
    obtain ⟨⟨hA, hF⟩, _⟩ := hr.ref_inv rfl
    split at he
    · rename_i g s es' hes
      split at he
      · rename_i hlen
        simp at he; subst he
        obtain ⟨β, cap, hβ, rfl, hcap, hsz⟩ := (hA g s es' hes).2 hlen
        obtain ⟨β', c, e, fz, k1, k2, k3, k4, k5, k6, k7, k8⟩ := hs.blk b _ hes
        rw [hβ] at k1; simp at k1; subst k1
        have hl : (es'.drop off).length = len := by simp; omega
        refine ⟨Nat.le_trans (topAll_drop _ _) (hs.tops b _ (lt_of_get hes) hes), .inr ⟨_, cap, s, by rw [hl], by omega, k6, sized_sub k7 (fun e he => List.mem_of_mem_drop he), fun _ => rfl, fun i el cs hel hcs => ?_⟩⟩
        rw [List.getElem?_drop] at hel
        refine Win.mk0 k2 (fun j x hx => ?_)
        have := k8 (off + i) el cs j x hel hcs hx
        rwa [Nat.add_mul] at this
      · simp at he
    · rename_i s es' hes
      split at he
      · rename_i hlen
        simp at he; subst he
        have h0 := hF s es' hes hlen
        obtain ⟨A, len', cap, s', f, rfl, h1, h2, h3, h5, h6, h7, h8, h9, h10⟩ := h0.slice_inv
        subst h1
        refine ⟨by omega, .inr ⟨A, cap, s', rfl, h2, h7, h6, fun hne => (h8 (fun hz => hne (List.eq_nil_of_length_eq_zero hz))).1, fun i el cs hel hcs j x hx => ?_⟩⟩
        obtain ⟨cs', hcs', hlen', _⟩ := sized_get h6 hel
        rw [hcs] at hcs'; simp at hcs'; subst hcs'
        have hi := lt_of_get hel
        have hj := lt_of_get hx
        exact ⟨f i j, h9 i j hi (by omega), (h10 i el cs j x hel hcs hx).of0⟩
      · simp at he
    · simp at he
  | _ => simp [elemsOf] at he

end
end Go.Av

/-
  The evaluator's operations do what the model's do: nil, conversions, indexes, slices.
-/
namespace Go.Av
section
variable {G : Nat → Option (List AV)} {base : Nat} {esc : Option (List Nat)} {ρ ρ' : Nat → Option Nat} {H H' : List Blk} {w w' : World} {P : Program}

theorem equalIn_ptr_nil (d : Nat) {t e : TypeId} (h : P.underlying t = some (.pointer e)) (p : Option Addr) : (Op.equalIn (d + 1) t (.pointer p) (.pointer none)).run P w = .ok p.isNone w := by
  cases p <;> simp [Op.equalIn, run_underlying h]
theorem equalIn_slice_nil (d : Nat) {t e : TypeId} (h : P.underlying t = some (.slice e)) (a : Option Addr) (l c : Nat) : (Op.equalIn (d + 1) t (.slice a l c) (.slice none 0 0)).run P w = .ok a.isNone w := by
  cases a <;> simp [Op.equalIn, run_underlying h]
theorem equalIn_func_nil (d : Nat) {t : TypeId} {ps rs : Array TypeId} {b : Bool} (h : P.underlying t = some (.func ps rs b)) : (Op.equalIn (d + 1) t .nilFunc .nilFunc).run P w = .ok true w := by
  simp [Op.equalIn, run_underlying h]
theorem equalIn_func_not (d : Nat) {t : TypeId} {ps rs : Array TypeId} {b : Bool} (h : P.underlying t = some (.func ps rs b)) (f : Fn) (x y : Array Value) : (Op.equalIn (d + 1) t (.func f x y) .nilFunc).run P w = .ok false w := by
  simp [Op.equalIn, run_underlying h]
theorem equalIn_map_nil (d : Nat) {t k e : TypeId} (h : P.underlying t = some (.map k e)) (m : Option Nat) : (Op.equalIn (d + 1) t (.map m) (.map none)).run P w = .ok m.isNone w := by
  cases m <;> simp [Op.equalIn, run_underlying h]
theorem equalIn_bool (d : Nat) {t : TypeId} (h : P.underlying t = some .bool) (a b : Bool) : (Op.equalIn (d + 1) t (.bool a) (.bool b)).run P w = .ok (a == b) w := by
  simp [Op.equalIn, run_underlying h]

theorem kindT_1 {t : TypeId} (h : kindT P t = 1) : ∃ e, P.underlying t = some (.pointer e) := by
  unfold kindT at h; split at h <;> simp_all
theorem kindT_2 {t : TypeId} (h : kindT P t = 2) : ∃ e, P.underlying t = some (.slice e) := by
  unfold kindT at h; split at h <;> first | exact ⟨_, by assumption⟩ | (split at h <;> simp at h) | simp at h
theorem kindT_3 {t : TypeId} (h : kindT P t = 3) : ∃ a b c, P.underlying t = some (.func a b c) := by
  unfold kindT at h; split at h <;> first | exact ⟨_, _, _, by assumption⟩ | (split at h <;> simp at h) | simp at h
theorem kindT_4 {t : TypeId} (h : kindT P t = 4) : ∃ a b, P.underlying t = some (.map a b) := by
  unfold kindT at h; split at h <;> first | exact ⟨_, _, by assumption⟩ | (split at h <;> simp at h) | simp at h
theorem kindT_6 {t : TypeId} (h : kindT P t = 6) : P.underlying t = some .bool := by
  unfold kindT at h; split at h <;> first | assumption | (split at h <;> simp at h) | simp at h

/-- '==' or '!=' once it is known what 'Op.equal' says. -/
theorem eqp_of {t : TypeId} {ox oy : Operand} {v u : Value} {b : Bool} (neg : Bool) (he : (Op.equal t v u).run P w = .ok b w)
    (hb : ∀ op, op = .eql ∨ op = .neq → (eqGuard op t ox oy v u).run P w = .ok () w) (h1 : binOp .eql t v u = (do pure (.bool (← Op.equal t v u)))) (h2 : binOp .neq t v u = (do pure (.bool (!(← Op.equal t v u))))) :
    (do eqGuard (if neg then .neq else .eql) t ox oy v u; binOp (if neg then .neq else .eql) t v u : Sem Value).run P w = .ok (.bool (b != neg)) w := by
  cases neg
  · simp only [Bool.false_eq_true, if_false, Sem.run_bind, hb _ (.inl rfl), Result.andThen_ok, h1, he, Sem.run_pure]
    cases b <;> rfl
  · simp only [if_true, Sem.run_bind, hb _ (.inr rfl), Result.andThen_ok, h2, he, Sem.run_pure]
    cases b <;> rfl

theorem eqp_sound (_hs : Sim G ρ H w) {neg : Bool} {k : Nat} {t : TypeId} {ox oy : Operand} {x y : AV} {v u : Value} {b : Bool} (hk : kindT P t = k) (hx : RelH ρ H w x v) (hy : RelH ρ H w y u)
    (hkx : nilKind x = k) (he : eqRef H x y = some b) :
    (do eqGuard (if neg then .neq else .eql) t ox oy v u; binOp (if neg then .neq else .eql) t v u : Sem Value).run P w = .ok (.bool (b != neg)) w := by
  have guard0 : ∀ (v u : Value), v.oneCell' = true → (v = .nilIface → False) → ∀ op, op = .eql ∨ op = .neq → (eqGuard op t ox oy v u).run P w = .ok () w := by
    intro v u h1 h2 op hop
    rcases hop with rfl | rfl <;> cases v <;> simp [Value.oneCell'] at h1 h2 <;> simp [eqGuard]
  unfold eqRef at he
  split at he
  · -- bools
    obtain rfl := hx.bool_inv
    obtain rfl := hy.bool_inv
    simp at he; subst he
    simp [nilKind] at hkx; subst hkx
    exact eqp_of neg (equalIn_bool 9999 (kindT_6 hk) _ _) (guard0 _ _ rfl (by simp)) rfl rfl
  · obtain rfl := hx.nilptr_inv
    obtain rfl := hy.nilptr_inv
    simp at he; subst he
    simp [nilKind] at hkx; subst hkx
    obtain ⟨e, h⟩ := kindT_1 hk
    exact eqp_of neg (equalIn_ptr_nil 9999 h none) (guard0 _ _ rfl (by simp)) rfl rfl
  · obtain ⟨β, o, f, rfl, _⟩ := hx.iptr_inv
    obtain rfl := hy.nilptr_inv
    simp at he; subst he
    simp [nilKind] at hkx; subst hkx
    obtain ⟨e, h⟩ := kindT_1 hk
    exact eqp_of neg (equalIn_ptr_nil 9999 h _) (guard0 _ _ rfl (by simp)) rfl rfl
  · split at he
    · rename_i hb
      obtain ⟨β, _, rfl⟩ := (hx.ref_inv rfl).1 _ _ hb
      obtain rfl := hy.nilptr_inv
      simp at he; subst he
      simp [nilKind] at hkx; subst hkx
      obtain ⟨e, h⟩ := kindT_1 hk
      exact eqp_of neg (equalIn_ptr_nil 9999 h _) (guard0 _ _ rfl (by simp)) rfl rfl
    · simp at he
  · split at he
    · rename_i hb
      split at he
      · rename_i hn
        obtain ⟨β, _, rfl⟩ := ((hx.ref_inv rfl).1 _ _ _ hb).2 hn
        obtain rfl := hy.nilptr_inv
        simp at he; subst he
        simp [nilKind] at hkx; subst hkx
        obtain ⟨e, h⟩ := kindT_1 hk
        exact eqp_of neg (equalIn_ptr_nil 9999 h _) (guard0 _ _ rfl (by simp)) rfl rfl
      · simp at he
    · simp at he
  · obtain rfl := hx.nilslice_inv
    obtain rfl := hy.nilslice_inv
    simp at he; subst he
    simp [nilKind] at hkx; subst hkx
    obtain ⟨e, h⟩ := kindT_2 hk
    exact eqp_of neg (equalIn_slice_nil 9999 h none _ _) (guard0 _ _ rfl (by simp)) rfl rfl
  · obtain ⟨A, len, cap, s, f, rfl, _⟩ := hx.slice_inv
    obtain rfl := hy.nilslice_inv
    simp at he; subst he
    simp [nilKind] at hkx; subst hkx
    obtain ⟨e, h⟩ := kindT_2 hk
    exact eqp_of neg (equalIn_slice_nil 9999 h (some A) _ _) (guard0 _ _ rfl (by simp)) rfl rfl
  · rename_i b' off len
    simp only [Option.bind_eq_some_iff] at he
    obtain ⟨es, hes, he⟩ := he
    obtain rfl := hy.nilslice_inv
    simp at he; subst he
    simp [nilKind] at hkx; subst hkx
    obtain ⟨e, h⟩ := kindT_2 hk
    have : ∃ A l c, v = .slice (some A) l c := by
      obtain ⟨⟨hA, hF⟩, _⟩ := hx.ref_inv rfl
      simp only [elemsOf] at hes
      split at hes
      · split at hes
        · rename_i h1 h2
          obtain ⟨β, cap, _, hv, _⟩ := (hA _ _ _ h1).2 h2
          exact ⟨_, _, _, hv⟩
        · simp at hes
      · split at hes
        · rename_i h1 h2
          obtain ⟨A, len, cap, s, f, hv, _⟩ := (hF _ _ h1 h2).slice_inv
          exact ⟨_, _, _, hv⟩
        · simp at hes
      · simp at hes
    obtain ⟨A, l, c, rfl⟩ := this
    exact eqp_of neg (equalIn_slice_nil 9999 h (some A) _ _) (guard0 _ _ rfl (by simp)) rfl rfl
  · obtain rfl := hx.nilfunc_inv
    obtain rfl := hy.nilfunc_inv
    simp at he; subst he
    simp [nilKind] at hkx; subst hkx
    obtain ⟨a, b, c, h⟩ := kindT_3 hk
    exact eqp_of neg (equalIn_func_nil 9999 h) (guard0 _ _ rfl (by simp)) rfl rfl
  · obtain ⟨vs, rfl, _⟩ := hx.func_inv
    obtain rfl := hy.nilfunc_inv
    simp at he; subst he
    simp [nilKind] at hkx; subst hkx
    obtain ⟨a, b, c, h⟩ := kindT_3 hk
    exact eqp_of neg (equalIn_func_not 9999 h _ _ _) (guard0 _ _ rfl (by simp)) rfl rfl
  · obtain rfl := hx.nilmap_inv
    obtain rfl := hy.nilmap_inv
    simp at he; subst he
    simp [nilKind] at hkx; subst hkx
    obtain ⟨a, b, h⟩ := kindT_4 hk
    exact eqp_of neg (equalIn_map_nil 9999 h none) (guard0 _ _ rfl (by simp)) rfl rfl
  · simp at he

/-- An index or a bound. -/
theorem getInt_inv {x : AV} {n : Int} (h : getInt x = some n) : ∃ k, x = .int k n := by
  cases x <;> simp [getInt] at h
  subst h; exact ⟨_, rfl⟩

theorem bound_sound {d y n : Nat} {x : Option AV} {o : Option Value} {code : BoundsCode} (hb : bound d y x = some n) (hr : ∀ a v, x = some a → o = some v → RelH ρ H w a v) (hsome : x.isSome = o.isSome) :
    (match o with
      | some v => Instr.sliceBound v y code
      | none => pure d : Sem Nat).run P w = .ok n w ∧ (n ≤ y ∨ (x = none ∧ n = d)) := by
  cases x with
  | none =>
    cases o with
    | some v => simp at hsome
    | none => simp [bound] at hb; subst hb; simp
  | some a =>
    cases o with
    | none => simp at hsome
    | some v =>
      cases a <;> simp [bound] at hb
      obtain ⟨hb, rfl⟩ := hb
      obtain rfl := (hr _ _ rfl rfl).int_inv
      refine ⟨?_, .inl (by omega)⟩
      simp [Instr.sliceBound, asIntOf, hb.1, hb.2]

end
end Go.Av

/-
  The evaluator's operations do what the model's do: slices, indexes, parts, conversions.
-/
namespace Go.Av
section
variable {G : Nat → Option (List AV)} {base : Nat} {esc : Option (List Nat)} {ρ ρ' : Nat → Option Nat} {H H' : List Blk} {w w' : World} {P : Program}

/-- operands that may be left out. -/
theorem oget_sound {fr : List (Nat × AV)} {a : Act} (hs : Sim G ρ H w) (hf : FrRel ρ H w fr a.tmps) {o : Option Operand} {x : Option Opd} (hc : cOpt o = some x) :
    (oget G fr x).isSome = (o.map a.eval).isSome ∧ ∀ b v, oget G fr x = some b → o.map a.eval = some v → RelH ρ H w b v := by
  cases o with
  | none => simp [cOpt] at hc; subst hc; simp [oget]
  | some o =>
    simp only [cOpt, Option.map_eq_some_iff] at hc
    obtain ⟨y, hy, rfl⟩ := hc
    refine ⟨rfl, fun b v hb hv => ?_⟩
    simp [oget] at hb; simp at hv
    subst hb; subst hv
    exact (opd_sound hs hf hy).1

theorem extract_list (s : ByteArray) (l h : Nat) : (s.extract l h).data.toList = (s.data.toList.drop l).take (h - l) := by
  simp [List.extract_eq_take_drop]

theorem sliceStr_run {t : TypeId} {s : ByteArray} {lo hi : Option AV} {vlo vhi : Option Value} {hh l : Nat} (ht : P.underlying t = some .string)
    (hhi : bound s.data.toList.length s.data.toList.length hi = some hh) (hlo : bound 0 hh lo = some l) (h1 : hi.isSome = vhi.isSome ∧ ∀ b v, hi = some b → vhi = some v → RelH ρ H w b v)
    (h2 : lo.isSome = vlo.isSome ∧ ∀ b v, lo = some b → vlo = some v → RelH ρ H w b v) :
    (Instr.sliceAt t (.string s) vlo vhi none).run P w = .ok (.string (s.extract l hh)) w := by
  obtain ⟨r1, _⟩ := bound_sound (P := P) (code := .sliceAlen) hhi h1.2 h1.1
  obtain ⟨r2, _⟩ := bound_sound (P := P) (code := .sliceB) hlo h2.2 h2.1
  have hsz : s.data.toList.length = s.size := rfl
  rw [hsz] at r1
  simp only [Instr.sliceAt, Sem.run_bind, run_underlying ht, Result.andThen_ok, Instr.slice, Option.isSome_none, Bool.false_eq_true, if_false]
  cases vhi <;> cases vlo <;> simp_all [Instr.sliceBounds]

theorem slice_run {t e : TypeId} {base : Option Addr} {len cap s : Nat} {lo hi mx : Option AV} {vlo vhi vmx : Option Value} {m hh l : Nat} (ht : P.underlying t = some (.slice e)) (hs : sizeT P e = some s)
    (hmx : bound cap cap mx = some m) (hhi : bound len m hi = some hh) (hmh : mx.isSome = true → hi.isSome = true) (hlo : bound 0 hh lo = some l)
    (h0 : mx.isSome = vmx.isSome ∧ ∀ b v, mx = some b → vmx = some v → RelH ρ H w b v)
    (h1 : hi.isSome = vhi.isSome ∧ ∀ b v, hi = some b → vhi = some v → RelH ρ H w b v)
    (h2 : lo.isSome = vlo.isSome ∧ ∀ b v, lo = some b → vlo = some v → RelH ρ H w b v) :
    (Instr.sliceAt t (.slice base len cap) vlo vhi vmx).run P w = .ok (.slice (if m = l then base else base.map (·.add (l * s))) (hh - l) (m - l)) w := by
  simp only [Instr.sliceAt, Sem.run_bind, run_underlying ht, Result.andThen_ok, Instr.slice, sizeOf_run hs]
  have r0 := bound_sound (P := P) (code := .slice3Acap) hmx h0.2 h0.1
  cases vmx with
  | none =>
    have hm : mx = none := by have h := h0.1; cases mx with | none => rfl | some y => simp at h
    subst hm
    simp [bound] at hmx
    subst hmx
    have r1 := bound_sound (P := P) (code := .sliceAcap) hhi h1.2 h1.1
    have r2 := bound_sound (P := P) (code := .sliceB) hlo h2.2 h2.1
    cases vhi <;> cases vlo <;> simp_all [Instr.sliceBounds]
  | some vm =>
    have r1 := bound_sound (P := P) (code := .slice3B) hhi h1.2 h1.1
    have r2 := bound_sound (P := P) (code := .slice3C) hlo h2.2 h2.1
    cases vhi with
    | none => simp_all
    | some vh => cases vlo <;> simp_all [Instr.sliceBounds]

theorem bound_mono {d y y' n : Nat} {x : Option AV} (h : bound d y x = some n) (hy : y ≤ y') : bound d y' x = some n := by
  cases x with
  | none => exact h
  | some a =>
    cases a <;> simp [bound] at h ⊢
    exact ⟨⟨h.1.1, by omega⟩, h.2⟩
theorem bound_d {d d' y n : Nat} {x : Option AV} (h : bound d y x = some n) (hx : x.isSome = true) : bound d' y x = some n := by
  cases x with
  | none => simp at hx
  | some a => cases a <;> simp [bound] at h ⊢; exact h
theorem bound_le {d y n : Nat} {x : Option AV} (h : bound d y x = some n) (hd : d ≤ y) : n ≤ y := by
  cases x with
  | none => simp [bound] at h; omega
  | some a => cases a <;> simp [bound] at h; omega

theorem szOk_sized {s z : Nat} {es : List AV} (h : szOk s es = true) (hz : sized z es = true) (hne : es ≠ []) : z = s := by
  cases es with
  | nil => exact absurd rfl hne
  | cons e r =>
    obtain ⟨cs, h1, h2, _⟩ := sized_get hz (i := 0) (e := e) rfl
    simp [szOk, h1] at h
    omega

/-- A part of a slice that nobody writes. -/
theorem Rel.part {I : Nat → Prop} {R : AV → Value → Prop} {x : Bool} {es : List AV} {A : Addr} {cap s l hh cap' : Nat} {B : Addr} {x' : Bool} (hr : Rel I R w (.slice x es) (.slice (some A) es.length cap)) (hz : szOk s es = true)
    (hlh : l ≤ hh) (hle : hh ≤ es.length) (hB : hh ≠ l → B = A.add (l * s)) (hcap : hh - l ≤ cap') (hx' : x' = true → cap' = hh - l) : Rel I R w (.slice x' ((es.drop l).take (hh - l))) (.slice (some B) (hh - l) cap') := by
  obtain ⟨A', len, cap0, z, f, hv, h1, h2, h3, h5, h6, h7, h8, h9, h10⟩ := hr.slice_inv
  injection hv with hA hlen hcap0
  injection hA with hA
  subst hA; subst hcap0
  have hl : ((es.drop l).take (hh - l)).length = hh - l := by simp; omega
  refine .slice x' _ B (hh - l) cap' z (fun i j => f (l + i) j) hl.symm hcap hx' ?_ (sized_sub h6 (fun e he => List.mem_of_mem_drop (List.mem_of_mem_take he))) h7 (fun hne => ?_) (fun i j hi hj => ?_) (fun i e cs j c he hc hj => ?_)
  · have := topAll_take (es.drop l) (hh - l); have := topAll_drop es l; omega
  · have hne' : es ≠ [] := by intro e; subst e; simp at hle; omega
    have hzs := szOk_sized hz h6 hne'
    subst hzs
    have hsp := h8 (by omega)
    rw [hB (by omega)]
    unfold Addr.add
    split
    · exact hsp
    · exact ⟨rfl, hsp.2⟩
  · have hne' : es ≠ [] := by intro e; subst e; simp at hle; omega
    have hzs := szOk_sized hz h6 hne'
    subst hzs
    have hsp := h8 (by omega)
    have := h9 (l + i) j (by omega) hj
    rw [hB (by omega)]
    have hadd : (A.add (l * z)).block = A.block ∧ (A.add (l * z)).off = A.off + l * z := by
      unfold Addr.add; split
      · rename_i h0; exact ⟨rfl, by omega⟩
      · exact ⟨rfl, rfl⟩
    rw [hadd.1, hadd.2, Nat.add_assoc A.off, ← Nat.add_mul]
    exact this
  · have hi := lt_of_get he
    rw [hl] at hi
    rw [List.getElem?_take, if_pos hi, List.getElem?_drop] at he
    exact h10 (l + i) e cs j c he hc hj

theorem resl_sound {s : Nat} {x : Bool} {es : List AV} {v : Value} {lo hi mx : Option AV} {vlo vhi vmx : Option Value} {z : AV} {t e : TypeId} (ht : P.underlying t = some (.slice e)) (hs : sizeT P e = some s)
    {I : Nat → Prop} {R : AV → Value → Prop} (hr : Rel I R w (.slice x es) v) (hz : resl s x es lo hi mx = some z)
    (h0 : mx.isSome = vmx.isSome ∧ ∀ b v, mx = some b → vmx = some v → RelH ρ H w b v)
    (h1 : hi.isSome = vhi.isSome ∧ ∀ b v, hi = some b → vhi = some v → RelH ρ H w b v)
    (h2 : lo.isSome = vlo.isSome ∧ ∀ b v, lo = some b → vlo = some v → RelH ρ H w b v) :
    ∃ u, (Instr.sliceAt t v vlo vhi vmx).run P w = .ok u w ∧ Rel I R w z u ∧ z.top = 0 := by
  obtain ⟨A, len, cap, zz, f, rfl, hlen, hcap, hx, _⟩ := hr.slice_inv
  subst hlen
  unfold resl at hz
  split at hz
  · rename_i hzo
    cases mx with
    | none =>
      simp only [Option.bind_eq_some_iff] at hz
      obtain ⟨hh, hhi, l, hlo, hz⟩ := hz
      cases hz
      have hle := bound_le hhi (Nat.le_refl _)
      have hl := bound_le hlo (Nat.zero_le _)
      refine ⟨_, slice_run ht hs (mx := none) (m := cap) rfl (bound_mono hhi hcap) (by simp) hlo h0 h1 h2, ?_, rfl⟩
      by_cases hc : cap = l
      · rw [if_pos hc]
        exact Rel.part hr hzo hl hle (fun h => by omega) (by omega) (fun h => by simp at h; have := hx h.1; omega)
      · rw [if_neg hc]
        exact Rel.part hr hzo hl hle (fun _ => rfl) (by omega) (fun h => by simp at h; have := hx h.1; omega)
    | some m0 =>
      simp only at hz
      split at hz
      · rename_i hsome
        simp only [Option.bind_eq_some_iff] at hz
        obtain ⟨m, hm, hh, hhi, l, hlo, hz⟩ := hz
        cases hz
        have hm' := bound_le hm (Nat.zero_le _)
        have hle := bound_le hhi (Nat.zero_le _)
        have hl := bound_le hlo (Nat.zero_le _)
        refine ⟨_, slice_run ht hs (m := m) (bound_d (bound_mono hm hcap) rfl) (bound_d hhi hsome) (fun _ => hsome) hlo h0 h1 h2, ?_, rfl⟩
        by_cases hc : m = l
        · rw [if_pos hc]
          exact Rel.part hr hzo hl (by omega) (fun h => by omega) (by omega) (fun h => by simp at h; omega)
        · rw [if_neg hc]
          exact Rel.part hr hzo hl (by omega) (fun _ => rfl) (by omega) (fun h => by simp at h; omega)
      · simp at hz
  · simp at hz

theorem slices_sound {s : Nat} {x : AV} {v : Value} {lo hi mx : Option AV} {vlo vhi vmx : Option Value} {z : AV} {t e : TypeId} (ht : P.underlying t = some (.slice e)) (hs : sizeT P e = some s)
    (hr : RelH ρ H w x v) (hz : slicesOf s H x lo hi mx = some z)
    (h0 : mx.isSome = vmx.isSome ∧ ∀ b v, mx = some b → vmx = some v → RelH ρ H w b v)
    (h1 : hi.isSome = vhi.isSome ∧ ∀ b v, hi = some b → vhi = some v → RelH ρ H w b v)
    (h2 : lo.isSome = vlo.isSome ∧ ∀ b v, lo = some b → vlo = some v → RelH ρ H w b v) :
    ∃ u, (Instr.sliceAt t v vlo vhi vmx).run P w = .ok u w ∧ RelH ρ H w z u ∧ z.top ≤ x.top := by
  unfold slicesOf at hz
  split at hz
  · obtain rfl := hr.nilslice_inv
    split at hz
    · simp at hz
    · rename_i hm
      cases mx with
      | some m => simp at hm
      | none =>
        simp only [Option.bind_eq_some_iff] at hz
        obtain ⟨hh, hhi, l, hlo, hz⟩ := hz
        cases hz
        have hle := bound_le hhi (Nat.le_refl _)
        have hl := bound_le hlo (Nat.zero_le _)
        refine ⟨_, slice_run ht hs (mx := none) (m := 0) rfl hhi (by simp) (bound_mono hlo (Nat.zero_le _)) h0 h1 h2, ?_, by simp [AV.top]⟩
        have h3 : hh - l = 0 := by omega
        have h4 : 0 - l = 0 := by omega
        rw [h3, h4]
        simp
        exact .nilslice
  · obtain ⟨u, h3, h4, h5⟩ := resl_sound ht hs hr hz h0 h1 h2
    exact ⟨u, h3, h4, by omega⟩
  · rename_i b off len
    obtain ⟨⟨hA, hF⟩, _⟩ := hr.ref_inv rfl
    split at hz
    · rename_i g zz es hes
      split at hz
      · rename_i hc
        obtain ⟨hc1, hc2, hc3⟩ := hc
        subst hc2
        cases mx with
        | some m => simp at hc3
        | none =>
          simp only [Option.bind_eq_some_iff] at hz
          obtain ⟨hh, hhi, l, hlo, hz⟩ := hz
          have hle := bound_le hhi (Nat.le_refl _)
          have hl := bound_le hlo (Nat.zero_le _)
          obtain ⟨β, cap, hβ, rfl, hcap, hsz⟩ := (hA g zz es hes).2 hc1
          have hrun := slice_run (base := some ⟨β, off * zz, none⟩) ht hs (mx := none) (m := cap) rfl (bound_mono hhi hcap) (by simp) hlo h0 h1 h2
          split at hz
          · rename_i hlt
            cases hz
            refine ⟨_, hrun, ?_, by simp [AV.top]⟩
            rw [if_neg (by omega)]
            simp only [Option.map_some, Addr.add_none, ← Nat.add_mul]
            refine .ref _ _ rfl rfl ⟨fun g' s' es' hes' => ?_, fun s' es' hes' => ?_⟩
            · rw [hes] at hes'; cases hes'
              refine ⟨by omega, fun he => ⟨β, cap - l, hβ, rfl, by omega, ?_⟩⟩
              rw [← hsz]; congr 1; omega
            · rw [hes] at hes'; simp at hes'
          · rename_i hlt
            cases hz
            refine ⟨_, hrun, ?_, by simp [AV.top]⟩
            have h3 : hh - l = 0 := by omega
            rw [h3]
            have hemp : ∀ (A : Addr) (c : Nat), RelH ρ H w (.slice false []) (.slice (some A) 0 c) := fun A c =>
              .slice false [] A 0 c 1 (fun _ _ => undef) rfl (Nat.zero_le _) (by simp) rfl rfl (by omega) (fun h => absurd rfl h) (fun i j hi => by omega) (fun i e cs j c h => by simp at h)
            by_cases hcl : cap = l
            · rw [if_pos hcl]; exact hemp _ _
            · rw [if_neg hcl]; exact hemp _ _
      · simp at hz
    · rename_i s' es hes
      split at hz
      · rename_i hc
        have h00 := hF s' es hes hc
        obtain ⟨u, h3, h4, h5⟩ := resl_sound ht hs h00 hz h0 h1 h2
        exact ⟨u, h3, h4.of0, by omega⟩
      · simp at hz
    · simp at hz
  · simp at hz
end
end Go.Av

/-
  The evaluator's operations do what the model's do: indexes, parts, conversions that read.
-/
namespace Go.Av
section
variable {G : Nat → Option (List AV)} {base : Nat} {esc : Option (List Nat)} {ρ ρ' : Nat → Option Nat} {H H' : List Blk} {w w' : World} {P : Program}

theorem Win.iptr {β o : Nat} {cs : List AV} {I : Nat → Prop} {R : AV → Value → Prop} (f : Nat → Value) (hI : cs ≠ [] → I β) (hc : ∀ j, j < cs.length → w.cell? ⟨β, o + j, none⟩ = some (f j)) (ht : topAll cs = 0)
    (hr : ∀ j c, cs[j]? = some c → Rel I R w c (f j)) : Rel I R w (.iptr cs 0) (.pointer (some ⟨β, o, none⟩)) := by
  have := Rel.iptr (I := I) (R := R) (w := w) cs 0 β o f hI hc ht hr
  simpa using this

/-- The address of a slice's element that nobody writes. -/
theorem elem_addr {I : Nat → Prop} {R : AV → Value → Prop} {x : Bool} {es : List AV} {v : Value} {t e : TypeId} {s n : Nat} {el : AV} {cs : List AV} {k : IntKind} (ht : P.underlying t = some (.slice e)) (hs : sizeT P e = some s) (hsp : 0 < s)
    (hr : Rel I R w (.slice x es) v) (hel : es[n]? = some el) (hcs : el.cells = some cs) (hlen : cs.length = s) :
    ∃ u, (Instr.indexAt t v (.int k n)).run P w = .ok u w ∧ Rel I R w (.iptr cs 0) u := by
  obtain ⟨A, len, cap, z, f, rfl, h1, h2, h3, h5, h6, h7, h8, h9, h10⟩ := hr.slice_inv
  subst h1
  have hn := lt_of_get hel
  obtain ⟨cs', hcs', hl', _⟩ := sized_get h6 hel
  rw [hcs] at hcs'; simp at hcs'; subst hcs'
  have hzs : z = s := by omega
  subst hzs
  obtain ⟨hspot, hI⟩ := h8 (by omega)
  have hA : A = ⟨A.block, A.off, none⟩ := by cases A; simp at hspot; simp [hspot]
  refine ⟨.pointer (some ⟨A.block, A.off + n * z, none⟩), ?_, Win.iptr (f n) (fun _ => hI) (fun j hj => h9 n j hn (by omega)) ?_ (fun j c hj => h10 n el cs j c hel hcs hj)⟩
  · have hnn : (0 : Int) ≤ (n : Int) ∧ (n : Int) < (es.length : Int) := ⟨by omega, by omega⟩
    rw [hA]
    simp [Instr.indexAt, run_underlying ht, asIntOf, sizeOf_run hs, hn, Addr.add_none]
  · have := top_le_topAll hel
    have := top_cells hcs
    omega

theorem idxOf_sound {t e : TypeId} {s : Nat} {k : IntKind} {n : Int} {x z : AV} {v : Value} (ht : P.underlying t = some (.slice e)) (hsz : sizeT P e = some s) (hsp : 0 < s) (hr : RelH ρ H w x v)
    (hz : idxOf s H n x = some z) : ∃ u, (Instr.indexAt t v (.int k n)).run P w = .ok u w ∧ RelH ρ H w z u ∧ z.top ≤ x.top := by
  cases x with
  | slice f es =>
    simp only [idxOf] at hz
    split at hz
    · rename_i hn
      obtain ⟨m, rfl⟩ := Int.eq_ofNat_of_zero_le hn
      simp only [Option.bind_eq_some_iff, Int.toNat_natCast] at hz
      obtain ⟨el, hel, cs, hcs, hz⟩ := hz
      split at hz
      · rename_i hl
        cases hz
        obtain ⟨u, h1, h2⟩ := elem_addr (k := k) ht hsz hsp hr hel hcs hl
        exact ⟨u, h1, h2, by simp [AV.top]⟩
      · simp at hz
    · simp at hz
  | mslice b off len =>
    simp only [idxOf] at hz
    obtain ⟨⟨hA, hF⟩, _⟩ := hr.ref_inv rfl
    split at hz
    · rename_i g zz es hes
      split at hz
      · rename_i hc
        obtain ⟨hc1, rfl, hc2, hc3⟩ := hc
        cases hz
        obtain ⟨m, rfl⟩ := Int.eq_ofNat_of_zero_le hc2
        obtain ⟨β, cap, hβ, rfl, hcap, _⟩ := (hA g zz es hes).2 hc1
        refine ⟨.pointer (some ⟨β, (off + m) * zz + 0, none⟩), ?_, .ref _ _ rfl rfl (fun g' s' es' hes' => ?_), by simp [AV.top]⟩
        · have hm : m < len := by omega
          simp [Instr.indexAt, run_underlying ht, asIntOf, sizeOf_run hsz, hm, Addr.add_none, Nat.add_mul]
        · rw [hes] at hes'; cases hes'
          exact ⟨Nat.le_refl _, fun _ => ⟨β, hβ, by simp⟩⟩
      · simp at hz
    · rename_i s' es hes
      split at hz
      · rename_i hc
        obtain ⟨hc1, hn⟩ := hc
        obtain ⟨m, rfl⟩ := Int.eq_ofNat_of_zero_le hn
        simp only [Option.bind_eq_some_iff, Int.toNat_natCast] at hz
        obtain ⟨el, hel, cs, hcs, hz⟩ := hz
        split at hz
        · rename_i hl
          cases hz
          obtain ⟨u, h1, h2⟩ := elem_addr (k := k) ht hsz hsp (hF s' es hes hc1) hel hcs hl
          exact ⟨u, h1, h2.of0, by simp [AV.top]⟩
        · simp at hz
      · simp at hz
    · simp at hz
  | _ => simp [idxOf] at hz

/-- What an address that is moved on stands for. -/
theorem moveOf_sound {k : Nat} {x z : AV} {v : Value} (hr : RelH ρ H w x v) (hz : moveOf H k x = some z) :
    ∃ β o, v = .pointer (some ⟨β, o, none⟩) ∧ RelH ρ H w z (.pointer (some ⟨β, o + k, none⟩)) ∧ z.top = x.top := by
  cases x with
  | mptr b o =>
    simp only [moveOf] at hz
    split at hz
    · rename_i ty cs hcs
      cases hz
      obtain ⟨β, hβ, rfl⟩ := (hr.ref_inv rfl).1 ty cs hcs
      exact ⟨β, o, rfl, .ref _ _ rfl rfl (fun ty' cs' h => ⟨β, hβ, rfl⟩), rfl⟩
    · simp at hz
  | eptr b n i o =>
    simp only [moveOf] at hz
    split at hz
    · rename_i g s es hes
      split at hz
      · rename_i hn
        cases hz
        obtain ⟨β, hβ, rfl⟩ := ((hr.ref_inv rfl).1 g s es hes).2 hn
        refine ⟨β, _, rfl, .ref _ _ rfl rfl (fun g' s' es' h => ?_), rfl⟩
        rw [hes] at h; cases h
        exact ⟨by omega, fun _ => ⟨β, hβ, by rw [Nat.add_assoc]⟩⟩
      · simp at hz
    · simp at hz
  | iptr cs o =>
    simp only [moveOf] at hz
    cases hz
    obtain ⟨β, o', f, rfl, h1, h2, h3, h4⟩ := hr.iptr_inv
    exact ⟨β, o' + o, rfl, by rw [Nat.add_assoc]; exact .iptr cs _ β o' f h1 h2 h3 h4, rfl⟩
  | _ => simp [moveOf] at hz

theorem idxArr_sound {t e : TypeId} {s N : Nat} {k : IntKind} {n : Int} {x z : AV} {v : Value} (ht : P.underlying t = some (.array N e)) (hsz : sizeT P e = some s) (hr : RelH ρ H w x v) (hn : 0 ≤ n ∧ n < (N : Int))
    (hz : moveOf H (n.toNat * s) x = some z) : ∃ u, (Instr.indexAt t v (.int k n)).run P w = .ok u w ∧ RelH ρ H w z u ∧ z.top = x.top := by
  obtain ⟨m, rfl⟩ := Int.eq_ofNat_of_zero_le hn.1
  have hm : m < N := by omega
  obtain ⟨β, o, rfl, h1, h2⟩ := moveOf_sound hr hz
  refine ⟨_, ?_, h1, h2⟩
  simp [Instr.indexAt, run_underlying ht, asIntOf, sizeOf_run hsz, hm, Addr.add_none, Instr.sureAddr]

theorem fieldA_sound {t : TypeId} {fields : Array Field} {i s : Nat} {f : Field} {x z : AV} {v : Value} (ht : P.underlying t = some (.struct fields)) (hf : fields[i]? = some f) (hsz : sizeT P f.type = some s) (hs0 : s ≠ 0)
    (hr : RelH ρ H w x v) (hz : moveOf H f.offset x = some z) : ∃ u, (Instr.fieldAt t v i).run P w = .ok u w ∧ RelH ρ H w z u ∧ z.top = x.top := by
  obtain ⟨β, o, rfl, h1, h2⟩ := moveOf_sound hr hz
  refine ⟨_, ?_, h1, h2⟩
  simp [Instr.fieldAt, run_underlying ht, hf, Instr.sureAddr, fieldPlace, sizeOf_run hsz, hs0, Addr.add_none]

/-- A part of a struct or an array. -/
theorem part_run {t : TypeId} {s : Option Nat} {off : Nat} {cs : List AV} {vs : Array Value} {x : AV} {I : Nat → Prop} {R : AV → Value → Prop} (ht : shapeT P t = some s) (hl : cs.length = vs.size)
    (hr : ∀ (i : Nat) (c : AV) (v : Value), cs[i]? = some c → vs[i]? = some v → Rel I R w c v) (hx : takeCells cs off s = some x) : ∃ u, (part t vs off).run P w = .ok u w ∧ Rel I R w x u := by
  simp only [shapeT, Option.bind_eq_some_iff] at ht
  obtain ⟨b, hb, ht⟩ := ht
  cases b with
  | false =>
    simp at ht; subst ht
    simp only [takeCells] at hx
    have ho := lt_of_get hx
    have hv : vs[off]? = some vs[off] := by simp [← hl, ho]
    exact ⟨vs[off], by simp [part, isAgg_run hb, hv], hr off x _ hx hv⟩
  | true =>
    simp only [Option.map_eq_some_iff] at ht
    obtain ⟨n, hn, rfl⟩ := ht
    simp only [takeCells] at hx
    split at hx
    · rename_i hle
      simp at hx; subst hx
      refine ⟨.agg (vs.extract off (off + n)), by simp [part, isAgg_run hb, sizeOf_run hn], .agg _ _ (by simp; omega) (fun i c v hc hv => ?_)⟩
      rw [List.getElem?_take] at hc
      split at hc
      · rw [List.getElem?_drop] at hc
        refine hr (off + i) c v hc ?_
        rw [Array.getElem?_extract] at hv
        split at hv
        · exact hv
        · simp at hv
      · simp at hc
    · simp at hx

theorem bytesOf_run {l : List AV} {bs : List UInt8} (h : bytesOf l = some bs) : ∃ ns : List Int, l = ns.map (AV.int .u8) ∧ ns.map (fun n => UInt8.ofNat n.toNat) = bs := by
  induction l generalizing bs with
  | nil => simp [bytesOf] at h; subst h; exact ⟨[], rfl, rfl⟩
  | cons a r ih =>
    unfold bytesOf at h
    split at h
    · rename_i heq; cases heq
    · rename_i n r' heq
      cases heq
      split at h
      · rename_i l hl
        cases h
        obtain ⟨ns, h1, h2⟩ := ih hl
        exact ⟨n :: ns, by simp [h1], by simp [h2]⟩
      · simp at h
    · simp at h

theorem runesOf_run {l : List AV} {bs : List UInt8} (h : runesOf l = some bs) : ∃ ns : List Int, l = ns.map (AV.int .i32) ∧ ns.flatMap (fun n => (Utf8.encode n).data.toList) = bs := by
  induction l generalizing bs with
  | nil => simp [runesOf] at h; subst h; exact ⟨[], rfl, rfl⟩
  | cons a r ih =>
    unfold runesOf at h
    split at h
    · rename_i heq; cases heq
    · rename_i n r' heq
      cases heq
      split at h
      · rename_i l hl
        cases h
        obtain ⟨ns, h1, h2⟩ := ih hl
        exact ⟨n :: ns, by simp [h1], by simp [h2]⟩
      · simp at h
    · simp at h

/-- A slice of one-cell elements that are numbers of a kind: its cells. -/
theorem ints_cells (hs : Sim G ρ H w) {x : AV} {v : Value} {k : IntKind} {ns : List Int} (hr : RelH ρ H w x v) (he : elemsOf H x = some (ns.map (AV.int k))) :
    (v = .slice none 0 0 ∧ ns = []) ∨ ∃ (A : Addr) (cap : Nat), v = .slice (some A) ns.length cap ∧ (loadCells A ns.length).run P w = .ok (ns.map (Value.int k)).toArray w := by
  obtain ⟨_, ⟨rfl, h⟩ | ⟨A, cap, s, rfl, h1, h2, h3, h4, h5⟩⟩ := elems_sound hs hr he
  · exact .inl ⟨rfl, by simpa using h⟩
  · refine .inr ⟨A, cap, by simp, ?_⟩
    by_cases hns : ns = []
    · subst hns; simp [loadCells, loadCellsFrom]
    · have hsp := h4 (by simpa using hns)
      have hs1 : s = 1 := by
        obtain ⟨n, r, rfl⟩ := List.exists_cons_of_ne_nil hns
        obtain ⟨cs, hc, hl, _⟩ := sized_get h3 (i := 0) (e := .int k n) rfl
        simp [AV.cells] at hc; subst hc; simpa using hl.symm
      subst hs1
      have hA : A = ⟨A.block, A.off, none⟩ := by cases A; simp at hsp; simp [hsp]
      have := run_loadCells_list (P := P) w A (ns.map (Value.int k)) (fun j u hu => by
        simp only [List.getElem?_map, Option.map_eq_some_iff] at hu
        obtain ⟨n, hn, rfl⟩ := hu
        obtain ⟨u', hu', hr'⟩ := h5 j (.int k n) [.int k n] (by simp [hn]) rfl 0 (.int k n) rfl
        rw [hr'.int_inv] at hu'
        rw [hA, Addr.add_none]
        simpa using hu')
      simpa using this

theorem conv_bytesStr (hs : Sim G ρ H w) {s d e : TypeId} {x : AV} {v : Value} {es : List AV} {bs : List UInt8} (hus : P.underlying s = some (.slice e)) (hud : P.underlying d = some .string) (hue : P.underlying e = some (.int .u8))
    (hr : RelH ρ H w x v) (he : elemsOf H x = some es) (hb : bytesOf es = some bs) : ∃ S : ByteArray, (convert s d v).run P w = .ok (.string S) w ∧ S.data.toList = bs := by
  obtain ⟨ns, rfl, rfl⟩ := bytesOf_run hb
  rcases ints_cells (P := P) hs hr he with ⟨rfl, rfl⟩ | ⟨A, cap, rfl, hl⟩
  · exact ⟨.empty, by simp [convert, run_underlying hus, run_underlying hud, run_underlying hue, Conv.bytesToString], rfl⟩
  · refine ⟨ns.foldl (fun r n => r.push (UInt8.ofNat n.toNat)) ByteArray.empty, ?_, ?_⟩
    · rw [run_convert_bytes_string w s d e (some A) _ _ hus hue hud]
      exact run_bytesToString w A _ cap ns hl
    · have : ∀ (l : List Int) (r : ByteArray), (l.foldl (fun r n => r.push (UInt8.ofNat n.toNat)) r).data.toList = r.data.toList ++ l.map (fun n => UInt8.ofNat n.toNat) := by
        intro l
        induction l with
        | nil => intro r; simp
        | cons a l ih => intro r; rw [List.foldl_cons, ih]; simp [ByteArray.push]
      simpa using this ns .empty

theorem conv_runesStr (hs : Sim G ρ H w) {s d e : TypeId} {x : AV} {v : Value} {es : List AV} {bs : List UInt8} (hus : P.underlying s = some (.slice e)) (hud : P.underlying d = some .string) (hue : P.underlying e = some (.int .i32))
    (hr : RelH ρ H w x v) (he : elemsOf H x = some es) (hb : runesOf es = some bs) : ∃ S : ByteArray, (convert s d v).run P w = .ok (.string S) w ∧ S.data.toList = bs := by
  obtain ⟨ns, rfl, rfl⟩ := runesOf_run hb
  rcases ints_cells (P := P) hs hr he with ⟨rfl, rfl⟩ | ⟨A, cap, rfl, hl⟩
  · exact ⟨.empty, run_convert_runes_nil w s d e 0 0 hus hue hud, rfl⟩
  · refine ⟨runesBytes ns, ?_, ?_⟩
    · rw [run_convert_runes_string w s d e (some A) _ _ hus hue hud]
      exact run_runesToString w A _ cap ns hl
    · have : ∀ (l : List Int) (r : ByteArray), (l.foldl (fun r n => r ++ Utf8.encode n) r).data.toList = r.data.toList ++ l.flatMap (fun n => (Utf8.encode n).data.toList) := by
        intro l
        induction l with
        | nil => intro r; simp
        | cons a l ih => intro r; simp [ih]
      simpa [runesBytes] using this ns .empty
end
end Go.Av

/-
  The evaluator's operations do what the model's do: what lays blocks, and what writes them.
-/
namespace Go.Av
section
variable {G : Nat → Option (List AV)} {base : Nat} {esc : Option (List Nat)} {ρ ρ' : Nat → Option Nat} {H H' : List Blk} {w w' : World} {P : Program}

theorem newVar_sound (hs : Sim G ρ H w) (hb : base ≤ H.length) (cells : Array Value) (cs : List AV) (e : TypeId) (hl : cs.length = cells.size) (hr : ∀ (i : Nat) (c : AV) (v : Value), cs[i]? = some c → cells[i]? = some v → RelH ρ H w c v)
    (ht : topAll cs ≤ H.length) : ∃ ρ', Sim G ρ' (H ++ [.var e cs]) (w.alloc (.cells cells e)) ∧ Step base esc ρ H w ρ' (H ++ [.var e cs]) (w.alloc (.cells cells e)) ∧
      RelH ρ' (H ++ [.var e cs]) (w.alloc (.cells cells e)) (.mptr H.length 0) (.pointer (some ⟨w.heap.size, 0, none⟩)) := by
  have hst := step_push (base := base) (esc := esc) hs hb (.var e cs) (.cells cells e) (w' := w.alloc (.cells cells e)) rfl rfl rfl rfl
  have hnew : (w.alloc (.cells cells e)).heap[w.heap.size]? = some (.cells cells e (0, 0)) := by show (w.heap.push _)[w.heap.size]? = _; simp
  refine ⟨_, sim_push hs (.var e cs) (.cells cells e) rfl rfl rfl rfl ?_ (by show topAll cs ≤ _; omega), hst, .ref _ _ rfl rfl (fun ty cs' h => ?_)⟩
  · refine ⟨w.heap.size, cells, by simp, hnew, hl.symm, fun j x hx => ?_⟩
    have hj := lt_of_get hx
    have hv : cells[j]? = some cells[j] := by simp [← hl, hj]
    exact ⟨_, hv, hst.rel (hr j x _ hx hv) (Nat.le_trans (top_le_topAll hx) ht)⟩
  · exact ⟨w.heap.size, by simp, rfl⟩

theorem zeroT_inv {e : TypeId} {z : List AV} (h : zeroT P e = some z) : ∃ i zv, P.info? e = some i ∧ i.zero = some zv ∧ allAV0 zv.cells.toList = some z := by
  simp only [zeroT, Option.bind_eq_some_iff] at h
  obtain ⟨i, hi, zv, hz, h⟩ := h
  exact ⟨i, zv, hi, hz, h⟩

theorem alloc_sound (hs : Sim G ρ H w) (hb : base ≤ H.length) {e : TypeId} {z : List AV} (hz : zeroT P e = some z) :
    ∃ ρ' w' u, (Instr.alloc e true (.tuple #[])).run P w = .ok u w' ∧ Sim G ρ' (H ++ [.var e z]) w' ∧ Step base esc ρ H w ρ' (H ++ [.var e z]) w' ∧ RelH ρ' (H ++ [.var e z]) w' (.mptr H.length 0) u := by
  obtain ⟨i, zv, hi, hzz, hz⟩ := zeroT_inv hz
  obtain ⟨h1, h2, h3⟩ := allAV0_rel (ρ := ρ) (w := w) hz
  obtain ⟨ρ', k1, k2, k3⟩ := newVar_sound (base := base) (esc := esc) hs hb zv.cells z e (by simpa using h1) (fun i c v hc hv => (h3 i c v hc (by simpa using hv)).1.of0) (by omega)
  exact ⟨ρ', _, _, by simp [Instr.alloc, zeroValue, typeInfo, hi, hzz, newVar, newRow], k1, k2, k3⟩

theorem cells_rel {a : AV} {v : Value} {cs : List AV} {I : Nat → Prop} {R : AV → Value → Prop} (hr : Rel I R w a v) (hc : a.cells = some cs) :
    cs.length = v.cells.size ∧ (∀ (i : Nat) (c : AV) (u : Value), cs[i]? = some c → v.cells[i]? = some u → Rel I R w c u) := by
  have one : a.cells = some [a] → v.cells = #[v] → cs.length = v.cells.size ∧ (∀ (i : Nat) (c : AV) (u : Value), cs[i]? = some c → v.cells[i]? = some u → Rel I R w c u) := by
    intro h1 h2
    rw [h1] at hc; cases hc
    rw [h2]
    refine ⟨rfl, fun i c u h3 h4 => ?_⟩
    cases i with
    | zero => simp at h3 h4; subst h3; subst h4; exact hr
    | succ i => simp at h3
  cases hr with
  | agg cs' vs hl hr' => simp [AV.cells] at hc; subst hc; exact ⟨hl, hr'⟩
  | undef => simp [AV.cells] at hc
  | tuple => simp [AV.cells] at hc
  | ref a v h ho hr' =>
    refine one ?_ ?_
    · cases a <;> simp [AV.isRef] at h <;> rfl
    · cases v <;> simp [Value.oneCell'] at ho <;> rfl
  | _ => exact one rfl rfl

theorem cells_oneCell {a : AV} {v : Value} {I : Nat → Prop} {R : AV → Value → Prop} (hr : Rel I R w a v) (hc : isCell a = true) : v.oneCell' = true := by
  cases hr <;> simp [isCell] at hc <;> first | rfl | assumption

theorem box_sound (hs : Sim G ρ H w) (hb : base ≤ H.length) {e : TypeId} {a : AV} {v : Value} {cs : List AV} (hr : RelH ρ H w a v) (ht : a.top ≤ H.length) (hc : a.cells = some cs) :
    ∃ ρ' w' u, (Instr.box e v).run P w = .ok u w' ∧ Sim G ρ' (H ++ [.var e cs]) w' ∧ Step base esc ρ H w ρ' (H ++ [.var e cs]) w' ∧ RelH ρ' (H ++ [.var e cs]) w' (.mptr H.length 0) u := by
  obtain ⟨h1, h2⟩ := cells_rel hr hc
  obtain ⟨ρ', k1, k2, k3⟩ := newVar_sound (base := base) (esc := esc) hs hb v.cells cs e h1 h2 (by rw [top_cells hc]; exact ht)
  exact ⟨ρ', _, _, by simp [Instr.box, newVar, newRow], k1, k2, k3⟩

/-- Values put into an array, from a place on. -/
def putV (cs : Array Value) (off : Nat) : List Value → Array Value
  | [] => cs
  | v :: r => putV (cs.setIfInBounds off v) (off + 1) r

theorem putV_size (off : Nat) (vs : List Value) (cs : Array Value) : (putV cs off vs).size = cs.size := by
  induction vs generalizing cs off with
  | nil => rfl
  | cons v r ih => simp [putV, ih]
theorem putAt_length (off : Nat) (vs cs : List AV) : (putAt cs off vs).length = cs.length := by
  induction vs generalizing cs off with
  | nil => rfl
  | cons v r ih => simp [putAt, ih]

theorem putAt_topAll (off : Nat) (vs cs : List AV) : topAll (putAt cs off vs) ≤ max (topAll cs) (topAll vs) := by
  induction vs generalizing cs off with
  | nil => simp [putAt]; omega
  | cons v r ih =>
    have := ih (off + 1) (cs.set off v)
    simp only [putAt, topAll]
    have h2 : topAll (cs.set off v) ≤ max (topAll cs) v.top := topAll_le fun i a h => by
      by_cases hi : i = off
      · subst hi
        rw [List.getElem?_set_self (by have := lt_of_get h; simpa using this)] at h
        simp at h; subst h; omega
      · rw [List.getElem?_set_ne (Ne.symm hi)] at h
        have := top_le_topAll h; omega
    omega

/-- What is put, and what was there, side by side. -/
theorem put_rel {p : AV → Value → Prop} (off : Nat) : ∀ (vs : List AV) (us : List Value) (cs : List AV) (c : Array Value), vs.length = us.length → cs.length = c.size →
    (∀ (j : Nat) x v, cs[j]? = some x → c[j]? = some v → p x v) → (∀ (j : Nat) x v, vs[j]? = some x → us[j]? = some v → p x v) →
    ∀ (j : Nat) x v, (putAt cs off vs)[j]? = some x → (putV c off us)[j]? = some v → p x v := by
  intro vs
  induction vs generalizing off with
  | nil =>
    intro us cs c h1 _ h3 _
    cases us with
    | nil => exact h3
    | cons => simp at h1
  | cons x r ih =>
    intro us cs c h1 h2 h3 h4
    cases us with
    | nil => simp at h1
    | cons u ur =>
      refine ih (off + 1) ur (cs.set off x) (c.setIfInBounds off u) (by simpa using h1) (by simpa using h2) (fun j y v hy hv => ?_) (fun j y v hy hv => h4 (j + 1) y v (by simpa using hy) (by simpa using hv))
      by_cases hj : j = off
      · subst hj
        have hlt := lt_of_get hy
        rw [List.length_set] at hlt
        rw [List.getElem?_set_self hlt] at hy
        simp [show j < c.size by omega] at hv
        simp at hy; subst hy; subst hv
        exact h4 0 x u rfl rfl
      · rw [List.getElem?_set_ne (Ne.symm hj)] at hy
        rw [Array.getElem?_setIfInBounds_ne (Ne.symm hj)] at hv
        exact h3 j y v hy hv

theorem foldl_put (off : Nat) (vs : Array Value) (cs : Array Value) : vs.zipIdx.foldl (fun cs (c, j) => cs.setIfInBounds (off + j) c) cs = putV cs off vs.toList := by
  rw [← Array.foldl_toList, Array.toList_zipIdx]
  have : ∀ (l : List Value) (k : Nat) (cs : Array Value), (l.zipIdx k).foldl (fun cs (c, j) => cs.setIfInBounds (off + j) c) cs = putV cs (off + k) l := by
    intro l
    induction l with
    | nil => intro k cs; rfl
    | cons v r ih => intro k cs; simp only [List.zipIdx_cons, List.foldl_cons, putV]; rw [ih]; rfl
  simpa using this vs.toList 0 cs
end
end Go.Av

/-
  The evaluator's operations do what the model's do: structs and slices written out, and what is stored.
-/
namespace Go.Av
section
variable {G : Nat → Option (List AV)} {base : Nat} {esc : Option (List Nat)} {ρ ρ' : Nat → Option Nat} {H H' : List Blk} {w w' : World} {P : Program}

/-- The parts of what is written out, as the model has them and as the evaluator has them. -/
def PartsOk (place : Nat → Option (Nat × Nat)) : List (Nat × Operand) → List (Nat × Nat × Opd) → Prop
  | [], [] => True
  | (i, x) :: r, (off, s, o) :: r' => place i = some (off, s) ∧ cOpd x = some o ∧ PartsOk place r r'
  | _, _ => False

theorem fill_sound {fr : List (Nat × AV)} {a : Act} (hs : Sim G ρ H w) (hf : FrRel ρ H w fr a.tmps) {place : Nat → Option (Nat × Nat)} : ∀ (q : List (Nat × Operand)) (l : List (Nat × Nat × Opd)) (cs cs' : List AV) (c : Array Value),
    PartsOk place q l → cs.length = c.size → topAll cs ≤ H.length → (∀ (j : Nat) x v, cs[j]? = some x → c[j]? = some v → RelH ρ H w x v) → fillAV G fr cs l = some cs' →
    ∃ c', Instr.fill place c (q.map fun (i, x) => (i, a.eval x)) = some c' ∧ cs'.length = c'.size ∧ topAll cs' ≤ H.length ∧ (∀ (j : Nat) x v, cs'[j]? = some x → c'[j]? = some v → RelH ρ H w x v) := by
  intro q
  induction q with
  | nil =>
    intro l cs cs' c hp h1 ht h2 hfl
    cases l with
    | nil => simp [fillAV] at hfl; subst hfl; exact ⟨c, rfl, h1, ht, h2⟩
    | cons => exact hp.elim
  | cons p r ih =>
    intro l cs cs' c hp h1 ht h2 hfl
    obtain ⟨i, x⟩ := p
    cases l with
    | nil => exact hp.elim
    | cons p' r' =>
      obtain ⟨off, s, o⟩ := p'
      obtain ⟨hp1, hp2, hp3⟩ := hp
      simp only [fillAV, Option.bind_eq_some_iff] at hfl
      obtain ⟨vs, hvs, hfl⟩ := hfl
      split at hfl
      · rename_i hc
        obtain ⟨hc1, hc2⟩ := hc
        obtain ⟨hr, htop⟩ := opd_sound hs hf hp2
        obtain ⟨k1, k2⟩ := cells_rel hr hvs
        have ht' : topAll (putAt cs off vs) ≤ H.length := by
          have := putAt_topAll off vs cs
          have := top_cells hvs
          omega
        obtain ⟨c', h3, h4, h5, h6⟩ := ih r' (putAt cs off vs) cs' (putV c off (a.eval x).cells.toList) hp3 (by rw [putAt_length, putV_size]; exact h1) ht'
          (put_rel off vs _ cs c (by simpa using k1) h1 h2 (fun j y v hy hv => k2 j y v hy (by simpa using hv))) hfl
        refine ⟨c', ?_, h4, h5, h6⟩
        simp only [List.map_cons, Instr.fill, hp1]
        rw [if_neg (by simp; omega), foldl_put]
        exact h3
      · simp at hfl

theorem partsS_ok {fields : Array Field} {places : List (Nat × Nat)} (hp : fields.toList.mapM (fun f => (P.info? f.type).map fun i => (f.offset, i.size)) = some places) : ∀ (q : List (Nat × Operand)) (l : List (Nat × Nat × Opd)), cPartsS P fields q = some l → PartsOk (places.toArray[·]?) q l := by
  have hget : ∀ (fs : List Field) (pl : List (Nat × Nat)), fs.mapM (fun f => (P.info? f.type).map fun i => (f.offset, i.size)) = some pl → ∀ (i : Nat) f s, fs[i]? = some f → sizeT P f.type = some s → pl[i]? = some (f.offset, s) := by
    intro fs
    induction fs with
    | nil => intro pl _ i f s h; simp at h
    | cons f0 r ih =>
      intro pl h i f s hf hs
      simp only [List.mapM_cons, Option.bind_eq_bind, Option.pure_def, Option.bind_eq_some_iff, Option.map_eq_some_iff] at h
      obtain ⟨y, ⟨inf, hinf, rfl⟩, pl', hpl', h⟩ := h
      simp at h; subst h
      cases i with
      | zero =>
        simp at hf; subst hf
        simp [sizeT, hinf] at hs; subst hs
        rfl
      | succ i => exact ih pl' hpl' i f s (by simpa using hf) hs
  intro q
  induction q with
  | nil => intro l h; simp [cPartsS] at h; subst h; trivial
  | cons p r ih =>
    obtain ⟨i, x⟩ := p
    intro l h
    simp only [cPartsS, Option.bind_eq_some_iff] at h
    obtain ⟨f, hf, s, hs, o, ho, l', hl', h⟩ := h
    cases h
    refine ⟨?_, ho, ih l' hl'⟩
    have := hget fields.toList places hp i f s (by simpa using hf) hs
    simpa using this

theorem partsA_ok {s : Nat} : ∀ (q : List (Nat × Operand)) (l : List (Nat × Nat × Opd)), cPartsA s q = some l → PartsOk (fun i => some (i * s, s)) q l := by
  intro q
  induction q with
  | nil => intro l h; simp [cPartsA] at h; subst h; trivial
  | cons p r ih =>
    obtain ⟨i, x⟩ := p
    intro l h
    simp only [cPartsA, Option.bind_eq_some_iff] at h
    obtain ⟨o, ho, l', hl', h⟩ := h
    cases h
    exact ⟨rfl, ho, ih l' hl'⟩

theorem places_some (fs : List Field) (h : ∀ f ∈ fs, (sizeT P f.type).isSome = true) : ∃ pl, fs.mapM (fun f => (P.info? f.type).map fun i => (f.offset, i.size)) = some pl := by
  induction fs with
  | nil => exact ⟨[], rfl⟩
  | cons f r ih =>
    obtain ⟨pl, hpl⟩ := ih (fun g hg => h g (by simp [hg]))
    have := h f (by simp)
    simp only [sizeT, Option.isSome_map] at this
    obtain ⟨i, hi⟩ := Option.isSome_iff_exists.1 this
    exact ⟨(f.offset, i.size) :: pl, by simp [List.mapM_cons, hi, hpl]⟩

theorem buildS_sound {fr : List (Nat × AV)} {a : Act} (hs : Sim G ρ H w) (hf : FrRel ρ H w fr a.tmps) {t : TypeId} {fields : Array Field} {z cs : List AV} {ps : Array (Nat × Operand)} {l : List (Nat × Nat × Opd)}
    (hz : zeroT P t = some z) (hu : P.underlying t = some (.struct fields)) (hall : fields.all (fun f => (sizeT P f.type).isSome) = true) (hl : cPartsS P fields ps.toList = some l) (hc : fillAV G fr z l = some cs) :
    ∃ u, (Instr.build t (ps.map fun (i, x) => (i, a.eval x))).run P w = .ok u w ∧ RelH ρ H w (.agg cs) u ∧ topAll cs ≤ H.length := by
  obtain ⟨inf, zv, hi, hzz, hz'⟩ := zeroT_inv hz
  obtain ⟨h1, h2, h3⟩ := allAV0_rel (ρ := ρ) (w := w) hz'
  obtain ⟨pl, hpl⟩ := places_some (P := P) fields.toList (fun f hf => by
    rw [Array.all_eq_true'] at hall
    exact hall f (by simpa using hf))
  obtain ⟨c', k1, k2, k3, k4⟩ := fill_sound hs hf _ l z cs zv.cells (partsS_ok hpl _ _ hl) (by simpa using h1) (by omega) (fun j x v hx hv => (h3 j x v hx (by simpa using hv)).1.of0) hc
  refine ⟨.agg c', ?_, .agg _ _ k2 k4, k3⟩
  have hk : Instr.fill (fun x => pl[x]?) zv.cells (ps.toList.map fun (i, x) => (i, a.eval x)) = some c' := by simpa using k1
  simp [Instr.build, run_underlying hu, typeInfo, zeroValue, hi, hzz, Array.mapM_eq_mapM_toList, run_places w _ _ hpl, hk]

theorem buildA_sound {fr : List (Nat × AV)} {a : Act} (hs : Sim G ρ H w) (hf : FrRel ρ H w fr a.tmps) {t e : TypeId} {n s : Nat} {z cs : List AV} {ps : Array (Nat × Operand)} {l : List (Nat × Nat × Opd)}
    (hz : zeroT P t = some z) (hu : P.underlying t = some (.array n e)) (hsz : sizeT P e = some s) (hl : cPartsA s ps.toList = some l) (hc : fillAV G fr z l = some cs) :
    ∃ u, (Instr.build t (ps.map fun (i, x) => (i, a.eval x))).run P w = .ok u w ∧ RelH ρ H w (.agg cs) u ∧ topAll cs ≤ H.length := by
  obtain ⟨inf, zv, hi, hzz, hz'⟩ := zeroT_inv hz
  obtain ⟨h1, h2, h3⟩ := allAV0_rel (ρ := ρ) (w := w) hz'
  obtain ⟨c', k1, k2, k3, k4⟩ := fill_sound hs hf _ l z cs zv.cells (partsA_ok _ _ hl) (by simpa using h1) (by omega) (fun j x v hx hv => (h3 j x v hx (by simpa using hv)).1.of0) hc
  refine ⟨.agg c', ?_, .agg _ _ k2 k4, k3⟩
  have hk : Instr.fill (fun i => some (i * s, s)) zv.cells (ps.toList.map fun (i, x) => (i, a.eval x)) = some c' := k1
  simp [Instr.build, run_underlying hu, zeroValue, typeInfo, hi, hzz, sizeOf_run hsz, hk]
end
end Go.Av

/-
  The evaluator's operations do what the model's do: stores, and slices written out.
-/
namespace Go.Av
section
variable {G : Nat → Option (List AV)} {base : Nat} {esc : Option (List Nat)} {ρ ρ' : Nat → Option Nat} {H H' : List Blk} {w w' : World} {P : Program}

theorem putV_get (us : List Value) : ∀ (off : Nat) (c : Array Value) (k : Nat), k < c.size → (putV c off us)[k]? = if off ≤ k ∧ k < off + us.length then us[k - off]? else c[k]? := by
  induction us with
  | nil => intro off c k hk; simp [putV]; omega
  | cons u r ih =>
    intro off c k hk
    simp only [putV]
    rw [ih (off + 1) _ k (by simpa using hk)]
    by_cases h1 : k = off
    · subst h1
      rw [if_neg (by omega), if_pos (by simp)]
      simp [hk]
    · by_cases h2 : off + 1 ≤ k ∧ k < off + 1 + r.length
      · rw [if_pos h2, if_pos (by simp; omega)]
        have : k - off = (k - (off + 1)) + 1 := by omega
        rw [this]; rfl
      · rw [if_neg h2, if_neg (by simp; omega)]
        rw [Array.getElem?_setIfInBounds_ne (Ne.symm h1)]

theorem setCells_at (b : Nat) : ∀ (vs : List Value) (o : Nat) (w : World) (c : Array Value) (e : TypeId) (fz : Nat × Nat), w.heap[b]? = some (.cells c e fz) →
    (w.setCells b o vs).heap[b]? = some (.cells (putV c o vs) e fz) ∧ (w.setCells b o vs).heap.size = w.heap.size ∧ (∀ k, k ≠ b → (w.setCells b o vs).heap[k]? = w.heap[k]?) ∧
    (w.setCells b o vs).os = w.os ∧ (w.setCells b o vs).tape = w.tape ∧ (w.setCells b o vs).output = w.output := by
  intro vs
  induction vs with
  | nil => intro o w c e fz h; exact ⟨h, rfl, fun _ _ => rfl, rfl, rfl, rfl⟩
  | cons v r ih =>
    intro o w c e fz h
    have h' : (w.setCell ⟨b, o, none⟩ v).heap[b]? = some (.cells (c.setIfInBounds o v) e fz) := by
      simp only [World.setCell, Array.getElem?_modify, if_true, h]
      rfl
    obtain ⟨k1, k2, k3, k4, k5, k6⟩ := ih (o + 1) _ _ e fz h'
    refine ⟨k1, k2.trans (by simp), fun k hk => (k3 k hk).trans ?_, k4, k5, k6⟩
    simp [World.setCell, Array.getElem?_modify, Ne.symm hk]

/-- Cells stored in a block whose cells may be written. -/
theorem storeVar_run {t : TypeId} {s β o : Nat} {v : Value} {c : Array Value} {e : TypeId} {fz : Nat × Nat} (hsz : sizeT P t = some s) (hv : v.cells.size = s) (hh : w.heap[β]? = some (.cells c e fz)) (hle : o + s ≤ c.size)
    (hfz : ∀ o, o < c.size → ¬ (fz.1 ≤ o ∧ o < fz.2)) (h1 : ∀ u ∈ v.cells.toList, u.oneCell' = true) : (storeVar t ⟨β, o, none⟩ v).run P w = .ok () (w.setCells β o v.cells.toList) := by
  have hrun := run_storeCells_cells (P := P) β o v.cells.toList 0 w (fun j hj => by
      have : o + j < c.size := by simp at hj; omega
      simp [World.cell?, hh, this])
    (fun j hj => by
      have : o + j < c.size := by simp at hj; omega
      have := hfz _ this
      simp [World.frozen?, hh]
      omega) h1
  simp [storeVar, sizeOf_run hsz, hv, hrun]

theorem cells_one {a : AV} {v : Value} {vs : List AV} {I : Nat → Prop} {R : AV → Value → Prop} (hr : Rel I R w a v) (hc : a.cells = some vs) (hall : vs.all isCell = true) : ∀ u ∈ v.cells.toList, u.oneCell' = true := by
  intro u hu
  obtain ⟨h1, h2⟩ := cells_rel hr hc
  obtain ⟨i, hi⟩ := List.getElem?_of_mem hu
  have hlt := lt_of_get hi
  have hlt' : i < vs.length := by simp at hlt; omega
  exact cells_oneCell (h2 i vs[i] u (by simp [hlt']) (by simpa using hi)) (by rw [List.all_eq_true] at hall; exact hall _ (List.getElem_mem _))

theorem mayLay_cl {b top xtop : Nat} (h : mayLay base esc b top = true) : ∀ t, t ≤ base → (∀ l, esc = some l → ∀ q ∈ l, t ≤ q) → b < t → xtop ≤ t → max xtop top ≤ t := by
  intro t ht he hb hx
  unfold mayLay at h
  split at h
  · omega
  · split at h
    · omega
    · cases hesc : esc with
      | none => rw [hesc] at h; simp at h
      | some l =>
        rw [hesc] at h
        simp at h
        have := he l hesc b h
        omega

theorem ref_var {b ty ty' : Nat} {cs cs' : List AV} (hcs : H[b]? = some (.var ty cs)) (hget : H'[b]? = some (.var ty' cs')) (hρ : ρ' b = ρ b) :
    ∀ a v, a.isRef = true → a.blk = b → RefRel ρ H w a v → RefRel ρ' H' w' a v := by
  intro a v ha hb hr
  cases a with
  | mptr b' o' => simp [AV.blk] at hb; subst hb; intro ty'' cs'' _; rw [hρ]; exact hr ty cs hcs
  | eptr b' => simp [AV.blk] at hb; subst hb; intro g s es hes; rw [hget] at hes; simp at hes
  | mslice b' =>
    simp [AV.blk] at hb; subst hb
    refine ⟨fun g s es hes => ?_, fun s es hes => ?_⟩
    · rw [hget] at hes; simp at hes
    · rw [hget] at hes; simp at hes
  | map b' => simp [AV.blk] at hb; subst hb; intro kd m hm; rw [hget] at hm; simp at hm
  | iter b' => simp [AV.blk] at hb; subst hb; intro m p hm; rw [hget] at hm; simp at hm
  | _ => simp [AV.isRef] at ha

theorem ref_arr {b s : Nat} {g : Option Nat} {es es' : List AV} (hes : H[b]? = some (.arr g s es)) (hget : H'[b]? = some (.arr g s es')) (hl : es'.length = es.length) (hρ : ρ' b = ρ b) (hsz : ∀ β, ρ b = some β → blockSize w' β = blockSize w β) :
    ∀ a v, a.isRef = true → a.blk = b → RefRel ρ H w a v → RefRel ρ' H' w' a v := by
  intro a v ha hb hr
  cases a with
  | mptr b' o' => simp [AV.blk] at hb; subst hb; intro ty'' cs'' h; rw [hget] at h; simp at h
  | eptr b' =>
    simp [AV.blk] at hb; subst hb
    intro g' s' es'' h
    rw [hget] at h; cases h
    rw [hρ, hl]; exact hr g s es hes
  | mslice b' =>
    simp [AV.blk] at hb; subst hb
    refine ⟨fun g' s' es'' h => ?_, fun s es h => ?_⟩
    · rw [hget] at h; cases h
      obtain ⟨h1, h2⟩ := hr.1 g s es hes
      rw [hl]
      refine ⟨h1, fun he => ?_⟩
      obtain ⟨β, cap, k1, k2, k3, k4⟩ := h2 he
      exact ⟨β, cap, hρ.trans k1, k2, k3, k4.trans (hsz β k1).symm⟩
    · rw [hget] at h; simp at h
  | map b' => simp [AV.blk] at hb; subst hb; intro kd m hm; rw [hget] at hm; simp at hm
  | iter b' => simp [AV.blk] at hb; subst hb; intro m p hm; rw [hget] at hm; simp at hm
  | _ => simp [AV.isRef] at ha

theorem putAt_get (us : List AV) : ∀ (off : Nat) (c : List AV) (k : Nat), k < c.length → (putAt c off us)[k]? = if off ≤ k ∧ k < off + us.length then us[k - off]? else c[k]? := by
  induction us with
  | nil => intro off c k hk; simp [putAt]; omega
  | cons u r ih =>
    intro off c k hk
    simp only [putAt]
    rw [ih (off + 1) _ k (by simpa using hk)]
    by_cases h1 : k = off
    · subst h1
      rw [if_neg (by omega), if_pos (by simp)]
      simp [hk]
    · by_cases h2 : off + 1 ≤ k ∧ k < off + 1 + r.length
      · rw [if_pos h2, if_pos (by simp; omega)]
        have : k - off = (k - (off + 1)) + 1 := by omega
        rw [this]; rfl
      · rw [if_neg h2, if_neg (by simp; omega)]
        rw [List.getElem?_set_ne (Ne.symm h1)]

/-- A store into an element: what its cells are then. -/
theorem storeInto_cells {e e' v : AV} {off s : Nat} {vs cs : List AV} (h : storeInto e off s v vs = some e') (hc : e.cells = some cs) (hv : v.cells = some vs) (hl : vs.length = s) : off + s ≤ cs.length ∧ e'.cells = some (putAt cs off vs) := by
  cases e <;> simp only [storeInto] at h
  case agg cs' =>
    simp [AV.cells] at hc; subst hc
    split at h
    · cases h; exact ⟨by assumption, rfl⟩
    · simp at h
  case undef => simp at h
  case tuple => simp at h
  all_goals
    simp [AV.cells] at hc; subst hc
    cases v <;> simp only at h
    case agg => simp at h
    case undef => simp [AV.cells] at hv
    case tuple => simp [AV.cells] at hv
    all_goals
      split at h
      · cases h
        simp [AV.cells] at hv; subst hv
        subst_vars
        exact ⟨by simp, rfl⟩
      · simp at h

theorem sized_set {s i : Nat} {es : List AV} {e : AV} {cs : List AV} (h : sized s es = true) (hc : e.cells = some cs) (hl : cs.length = s) (hall : cs.all isCell = true) : sized s (es.set i e) = true := by
  unfold sized at *
  rw [List.all_eq_true] at *
  intro x hx
  rcases List.mem_or_eq_of_mem_set hx with h1 | rfl
  · exact h x h1
  · simp [hc, hl]; simpa using hall

theorem putAt_all {p : AV → Bool} (off : Nat) (vs cs : List AV) (h1 : cs.all p = true) (h2 : vs.all p = true) : (putAt cs off vs).all p = true := by
  induction vs generalizing cs off with
  | nil => exact h1
  | cons v r ih =>
    simp only [List.all_cons, Bool.and_eq_true] at h2
    refine ih (off + 1) _ ?_ h2.2
    rw [List.all_eq_true] at *
    intro x hx
    rcases List.mem_or_eq_of_mem_set hx with h3 | rfl
    · exact h1 x h3
    · exact h2.1

/-- What a store does. -/
def StoreOk (G : Nat → Option (List AV)) (P : Program) (base : Nat) (esc : Option (List Nat)) (ρ : Nat → Option Nat) (H : List Blk) (w : World) (t : TypeId) (u v : Value) (H' : List Blk) : Prop :=
  ∃ w', (Instr.storeAt t u v).run P w = .ok () w' ∧ Sim G ρ H' w' ∧ Step base esc ρ H w ρ H' w'

theorem blockSize_putV {β : Nat} {c : Array Value} {e : TypeId} {fz : Nat × Nat} {o : Nat} {us : List Value} (h : w.heap[β]? = some (.cells c e fz)) (h' : w'.heap[β]? = some (.cells (putV c o us) e fz)) : blockSize w' β = blockSize w β := by
  simp [blockSize, h, h', putV_size]

theorem store_sound (hs : Sim G ρ H w) (st : St) (hst : st.h = H) (hb : st.base = base) (he : st.esc = esc) {t : TypeId} {s : Nat} {a x : AV} {u v : Value} (hsz : sizeT P t = some s) (hra : RelH ρ H w a u) (hrx : RelH ρ H w x v) (htx : x.top ≤ H.length)
    (hz : storeAV st s a x = some H') : StoreOk G P base esc ρ H w t u v H' := by
  subst hb he hst
  simp only [storeAV, Option.bind_eq_some_iff] at hz
  obtain ⟨vs, hvs, hz⟩ := hz
  split at hz
  · rename_i hc
    obtain ⟨hc1, hc2⟩ := hc
    obtain ⟨k1, k2⟩ := cells_rel hrx hvs
    have hone := cells_one hrx hvs hc2
    have hvt := top_cells hvs
    cases a with
    | mptr b off =>
      simp only at hz
      split at hz
      · rename_i ty cs hcs
        split at hz
        · rename_i hd
          obtain ⟨hd1, hd2⟩ := hd
          cases hz
          obtain ⟨β, hβ, rfl⟩ := (hra.ref_inv rfl).1 ty cs hcs
          obtain ⟨β', c, h1, h2, h3, h4⟩ := hs.blk b _ hcs
          rw [hβ] at h1; simp at h1; subst h1
          have hrun := storeVar_run (P := P) (o := off) hsz (by omega) h2 (by omega) (fun o _ => by simp) hone
          obtain ⟨m1, m2, m3, m4, m5, m6⟩ := setCells_at β v.cells.toList off w c ty (0, 0) h2
          have hstep : Step st.base st.esc ρ st.h w ρ (st.h.set b (.var ty (putAt cs off vs))) (w.setCells β off v.cells.toList) :=
            step_set hs b (.var ty cs) _ hcs (fun _ _ => rfl) m4 m5 m6 (by omega) (fun β' _ hne => m3 β' (fun h => hne (by rw [hβ, h]))) (fun β' h => .inl h)
              (fun _ => ref_var hcs (List.getElem?_set_self (lt_of_get hcs)) rfl)
              (fun t' ht' he' hbt hx => by
                have hm := mayLay_cl hd2 t' ht' he' hbt hx
                have := putAt_topAll off vs cs
                have h8 : (Blk.var ty cs).top = topAll cs := rfl
                show topAll (putAt cs off vs) ≤ t'
                omega)
          refine ⟨_, by simpa [Instr.storeAt, Instr.sureAddr] using hrun, ?_, hstep⟩
          refine sim_set hs b (.var ty cs) _ hcs (fun _ _ => rfl) hstep (fun β' _ hne => m3 β' (fun h => hne (by rw [hβ, h]))) (fun β' h => .inl h) (fun β' h => by have := (hs.dom _ _ h).1; omega) ?_ ?_
          · refine ⟨β, _, hβ, m1, by rw [putV_size, putAt_length]; exact h3, fun j y hy => ?_⟩
            have hj := lt_of_get hy
            rw [putAt_length] at hj
            have hv : (putV c off v.cells.toList)[j]? = some ((putV c off v.cells.toList)[j]'(by rw [putV_size]; omega)) := by simp
            refine ⟨_, hv, ?_⟩
            have := put_rel (p := fun x v => RelH ρ st.h w x v ∧ x.top ≤ st.h.length) off vs v.cells.toList cs c (by simpa using k1) h3.symm
              (fun j x v hx hv => by
                obtain ⟨v', hv', hr'⟩ := h4 j x hx
                rw [hv'] at hv; simp at hv; subst hv
                exact ⟨hr', Nat.le_trans (top_le_topAll hx) (hs.tops b _ (lt_of_get hcs) hcs)⟩)
              (fun j x v hx hv => ⟨k2 j x v hx (by simpa using hv), by have := top_le_topAll hx; omega⟩) j y _ hy hv
            exact hstep.rel this.1 this.2
          · have := putAt_topAll off vs cs
            have h9 := hs.tops b _ (lt_of_get hcs) hcs
            have h8 : (Blk.var ty cs).top = topAll cs := rfl
            show topAll (putAt cs off vs) ≤ _
            omega
        · simp at hz
      · simp at hz
    | eptr b n i off =>
      simp only at hz
      split at hz
      · rename_i g z es hes
        split at hz
        · rename_i hd
          obtain ⟨hd1, hd2⟩ := hd
          simp only [Option.bind_eq_some_iff] at hz
          obtain ⟨el, hel, e', he', hz⟩ := hz
          cases hz
          obtain ⟨β, hβ, rfl⟩ := ((hra.ref_inv rfl).1 g z es hes).2 hd1.symm
          obtain ⟨β', c, ty, fz, h1, h2, h3, h4, h5, h6, h7, h8⟩ := hs.blk b _ hes
          rw [hβ] at h1; simp at h1; subst h1
          obtain ⟨cs, hcs, hlen, hcell⟩ := sized_get h7 hel
          obtain ⟨hoff, hcs'⟩ := storeInto_cells he' hcs hvs hc1
          have hi := lt_of_get hel
          have hiz : i * z + z ≤ c.size := by
            have : (i + 1) * z ≤ es.length * z := Nat.mul_le_mul_right _ hi
            rw [Nat.add_mul] at this; omega
          have hrun := storeVar_run (P := P) (o := i * z + off) hsz (by omega) h2 (by omega) h4 hone
          obtain ⟨m1, m2, m3, m4, m5, m6⟩ := setCells_at β v.cells.toList (i * z + off) w c ty fz h2
          have hbs : blockSize (w.setCells β (i * z + off) v.cells.toList) β = blockSize w β := blockSize_putV h2 m1
          have htop : topAll (es.set i e') ≤ max (topAll es) (topAll vs) := topAll_le fun k x hx => by
            by_cases hk : k = i
            · subst hk
              rw [List.getElem?_set_self hi] at hx
              cases hx
              have a1 := putAt_topAll off vs cs
              have a2 := top_cells hcs'
              have a3 := top_cells hcs
              have a4 := top_le_topAll hel
              omega
            · rw [List.getElem?_set_ne (Ne.symm hk)] at hx
              have := top_le_topAll hx; omega
          have hgt : (Blk.arr g z es).top = topAll es := rfl
          have h9 := hs.tops b _ (lt_of_get hes) hes
          have hstep : Step st.base st.esc ρ st.h w ρ (st.h.set b (.arr g z (es.set i e'))) (w.setCells β (i * z + off) v.cells.toList) :=
            step_set hs b (.arr g z es) _ hes (fun _ _ => rfl) m4 m5 m6 (by omega) (fun β' _ hne => m3 β' (fun h => hne (by rw [hβ, h]))) (fun β' h => .inl h)
              (fun _ => ref_arr hes (List.getElem?_set_self (lt_of_get hes)) (by simp) rfl (fun β' h => by rw [hβ] at h; cases h; exact hbs))
              (fun t' ht' he' hbt hx => by
                have hm := mayLay_cl hd2 t' ht' he' hbt hx
                show topAll (es.set i e') ≤ t'
                omega)
          refine ⟨_, by simpa [Instr.storeAt, Instr.sureAddr] using hrun, ?_, hstep⟩
          refine sim_set hs b (.arr g z es) _ hes (fun _ _ => rfl) hstep (fun β' _ hne => m3 β' (fun h => hne (by rw [hβ, h]))) (fun β' h => .inl h) (fun β' h => by have := (hs.dom _ _ h).1; omega) ?_ ?_
          · refine ⟨β, _, ty, fz, hβ, m1, h3, by rw [putV_size]; exact h4, by rw [putV_size, List.length_set]; exact h5, h6, sized_set h7 hcs' (by rw [putAt_length]; exact hlen) (putAt_all off vs cs hcell hc2), ?_⟩
            intro k el' cs'' j y hy hcy hj
            by_cases hk : k = i
            · subst hk
              rw [List.getElem?_set_self hi] at hy
              cases hy
              rw [hcs'] at hcy; cases hcy
              have hjl := lt_of_get hj
              rw [putAt_length] at hjl
              rw [putAt_get vs off cs j hjl] at hj
              have hjs : k * z + j < c.size := by omega
              rw [putV_get _ _ _ _ hjs]
              have hul : v.cells.toList.length = vs.length := by simp [k1]
              by_cases hin : off ≤ j ∧ j < off + vs.length
              · rw [if_pos hin] at hj
                rw [if_pos (by omega)]
                have hsub : k * z + j - (k * z + off) = j - off := by omega
                rw [hsub]
                have hlt : j - off < v.cells.size := by omega
                refine ⟨v.cells[j - off], by simp [hlt], hstep.rel (k2 (j - off) y _ hj (by simp [hlt])) (by have := top_le_topAll hj; omega)⟩
              · rw [if_neg hin] at hj
                rw [if_neg (by omega)]
                obtain ⟨v', hv', hr'⟩ := h8 k el cs j y hel hcs hj
                refine ⟨v', hv', hstep.rel hr' ?_⟩
                have a1 := top_le_topAll hj
                have a2 := top_cells hcs
                have a3 := top_le_topAll hel
                omega
            · rw [List.getElem?_set_ne (Ne.symm hk)] at hy
              obtain ⟨v', hv', hr'⟩ := h8 k el' cs'' j y hy hcy hj
              obtain ⟨cs3, hcs3, hlen3, _⟩ := sized_get h7 hy
              rw [hcy] at hcs3; cases hcs3
              have hjl := lt_of_get hj
              have hkl := lt_of_get hy
              have hkz : k * z + z ≤ c.size := by
                have : (k + 1) * z ≤ es.length * z := Nat.mul_le_mul_right _ hkl
                rw [Nat.add_mul] at this; omega
              have hne : ¬ (i * z + off ≤ k * z + j ∧ k * z + j < i * z + off + v.cells.toList.length) := by
                rintro ⟨q1, q2⟩
                have hul : v.cells.toList.length = vs.length := by simp [k1]
                rcases Nat.lt_or_gt_of_ne hk with hlt | hgt
                · have : (k + 1) * z ≤ i * z := Nat.mul_le_mul_right _ hlt
                  rw [Nat.add_mul] at this; omega
                · have : (i + 1) * z ≤ k * z := Nat.mul_le_mul_right _ hgt
                  rw [Nat.add_mul] at this; omega
              refine ⟨v', ?_, hstep.rel hr' ?_⟩
              · rw [putV_get _ _ _ _ (by omega), if_neg hne]; exact hv'
              · have a1 := top_le_topAll hj
                have a2 := top_cells hcy
                have a3 := top_le_topAll hy
                omega
          · show topAll (es.set i e') ≤ _
            omega
        · simp at hz
      · simp at hz
    | _ => simp at hz
  · simp at hz
end
end Go.Av

/-
  The evaluator's operations do what the model's do: slices written out, strings made bytes, ranges over strings.
-/
namespace Go.Av
section
variable {G : Nat → Option (List AV)} {base : Nat} {esc : Option (List Nat)} {ρ ρ' : Nat → Option Nat} {H H' : List Blk} {w w' : World} {P : Program}

/-- Elements in a row of cells. -/
def Flat (p : AV → Value → Prop) (s : Nat) (es : List AV) (c : Array Value) : Prop :=
  c.size = es.length * s ∧ ∀ (i : Nat) el cs (j : Nat) x v, es[i]? = some el → el.cells = some cs → cs[j]? = some x → j < s → c[i * s + j]? = some v → p x v

theorem Flat.set {p : AV → Value → Prop} {s i : Nat} {es : List AV} {c : Array Value} {e : AV} {cs : List AV} {us : Array Value} (h : Flat p s es c) (hi : i < es.length) (hc : e.cells = some cs) (_hl : cs.length = s) (hu : us.size = s)
    (hp : ∀ (j : Nat) x v, cs[j]? = some x → us[j]? = some v → p x v) : Flat p s (es.set i e) (putV c (i * s) us.toList) := by
  refine ⟨by rw [putV_size, List.length_set]; exact h.1, fun k el cs' j x v hk hel hj hjs hv => ?_⟩
  have hiz : i * s + s ≤ c.size := by
    have : (i + 1) * s ≤ es.length * s := Nat.mul_le_mul_right _ hi
    rw [Nat.add_mul] at this; have := h.1; omega
  by_cases hki : k = i
  · subst hki
    rw [List.getElem?_set_self hi] at hk
    cases hk
    rw [hc] at hel; cases hel
    rw [putV_get _ _ _ _ (by omega), if_pos (by simp; omega)] at hv
    have : k * s + j - k * s = j := by omega
    rw [this] at hv
    exact hp j x v hj (by simpa using hv)
  · rw [List.getElem?_set_ne (Ne.symm hki)] at hk
    have hkl := lt_of_get hk
    have hkz : k * s + s ≤ c.size := by
      have : (k + 1) * s ≤ es.length * s := Nat.mul_le_mul_right _ hkl
      rw [Nat.add_mul] at this; have := h.1; omega
    rw [putV_get _ _ _ _ (by omega), if_neg ?_] at hv
    · exact h.2 k el cs' j x v hk hel hj hjs hv
    · rintro ⟨q1, q2⟩
      simp [hu] at q2
      rcases Nat.lt_or_gt_of_ne hki with hlt | hgt
      · have : (k + 1) * s ≤ i * s := Nat.mul_le_mul_right _ hlt
        rw [Nat.add_mul] at this; omega
      · have : (i + 1) * s ≤ k * s := Nat.mul_le_mul_right _ hgt
        rw [Nat.add_mul] at this; omega

theorem fillEs_sound {fr : List (Nat × AV)} {a : Act} (hs : Sim G ρ H w) (hf : FrRel ρ H w fr a.tmps) {s : Nat} : ∀ (q : List (Nat × Operand)) (l : List (Nat × Opd)) (es es' : List AV) (c : Array Value),
    cPartsL q = some l → Flat (RelH ρ H w) s es c → fillEs G fr s es l = some es' →
    ∃ c', Instr.fill (fun i => some (i * s, s)) c (q.map fun (i, x) => (i, a.eval x)) = some c' ∧ Flat (RelH ρ H w) s es' c' ∧ es'.length = es.length := by
  intro q
  induction q with
  | nil => intro l es es' c h hfl hz; simp [cPartsL] at h; subst h; simp [fillEs] at hz; subst hz; exact ⟨c, rfl, hfl, rfl⟩
  | cons p r ih =>
    obtain ⟨i, x⟩ := p
    intro l es es' c h hfl hz
    simp only [cPartsL, Option.bind_eq_some_iff] at h
    obtain ⟨o, ho, l', hl', h⟩ := h
    cases h
    simp only [fillEs, Option.bind_eq_some_iff] at hz
    obtain ⟨vs, hvs, hz⟩ := hz
    split at hz
    · rename_i hc
      obtain ⟨hc1, hc2⟩ := hc
      obtain ⟨hr, _⟩ := opd_sound hs hf ho
      obtain ⟨k1, k2⟩ := cells_rel hr hvs
      obtain ⟨c', h1, h2, h3⟩ := ih l' _ es' _ hl' (hfl.set hc2 hvs hc1 (by omega) k2) hz
      refine ⟨c', ?_, h2, h3.trans (by simp)⟩
      have hiz : i * s + s ≤ c.size := by
        have : (i + 1) * s ≤ es.length * s := Nat.mul_le_mul_right _ hc2
        rw [Nat.add_mul] at this; have := hfl.1; omega
      simp only [List.map_cons, Instr.fill]
      rw [if_neg (by simp; omega), foldl_put]
      exact h1
    · simp at hz

theorem range_cells {zero : Array Value} {n s : Nat} (hz : zero.size = s) (_hsp : 0 < s) : ((Array.range (n * s)).map (zero[· % zero.size]!)).size = n * s ∧
    ∀ i j, i < n → j < s → ((Array.range (n * s)).map (zero[· % zero.size]!))[i * s + j]? = zero[j]? := by
  refine ⟨by simp, fun i j hi hj => ?_⟩
  have hlt : i * s + j < n * s := by
    have : (i + 1) * s ≤ n * s := Nat.mul_le_mul_right _ hi
    rw [Nat.add_mul] at this; omega
  have hm : (i * s + j) % s = j := by rw [Nat.mul_comm, Nat.mul_add_mod]; exact Nat.mod_eq_of_lt hj
  simp [hlt, hz, hm, hj]

theorem mkSlice_sound {fr : List (Nat × AV)} {a : Act} (hs : Sim G ρ H w) (hf : FrRel ρ H w fr a.tmps) {t e : TypeId} {n s : Nat} {ag : Bool} {z : List AV} {za : AV} {es : List AV} {ps : Array (Nat × Operand)} {l : List (Nat × Opd)}
    (hu : P.underlying t = some (.slice e)) (hsz : sizeT P e = some s) (hz : zeroT P e = some z) (hsp : 0 < s) (hzl : z.length = s) (hn : n * s ≤ 16777216) (hza : (if ag then some (AV.agg z) else z[0]?) = some za)
    (hag : isAggT P e = some ag) (hone : ag = false → s = 1)
    (hl : cPartsL ps.toList = some l) (hc : fillEs G fr s (List.replicate n za) l = some es) (ht : topAll es = 0) (hsd : sized s es = true) :
    ∃ w' u, (Instr.buildSlice t n (ps.map fun (i, x) => (i, a.eval x))).run P w = .ok u w' ∧ Sim G ρ H w' ∧ Step base esc ρ H w ρ H w' ∧ RelH ρ H w' (.slice true es) u := by
  obtain ⟨inf, zv, hi, hzz, hz'⟩ := zeroT_inv hz
  obtain ⟨h1, h2, h3⟩ := allAV0_rel (ρ := ρ) (w := w) hz'
  have hzs : zv.cells.size = s := by rw [← hzl]; simpa using h1.symm
  obtain ⟨r1, r2⟩ := range_cells (n := n) hzs hsp
  have hzac : za.cells = some z := by
    cases ag with
    | true => simp at hza; subst hza; rfl
    | false =>
      have := hone rfl
      simp at hza
      match z, hzl with
      | [x], _ =>
        simp at hza; subst hza
        have hcx := (h3 0 x (zv.cells[0]'(by omega)) rfl (by rw [Array.getElem?_toList]; simp)).2
        cases x <;> simp [isCell] at hcx <;> rfl
      | [], hh => exact absurd hh (by simp; omega)
      | _ :: _ :: _, hh => exact absurd hh (by simp; omega)
  have hflat : Flat (RelH ρ H w) s (List.replicate n za) ((Array.range (n * s)).map (zv.cells[· % zv.cells.size]!)) := by
    refine ⟨by rw [r1]; simp, fun i el cs j x v hel hcs hj hjs hv => ?_⟩
    have hin := lt_of_get hel
    simp at hin
    rw [List.getElem?_replicate, if_pos hin] at hel
    cases hel
    rw [hzac] at hcs; cases hcs
    rw [r2 i j hin hjs] at hv
    exact (h3 j x v hj (by simpa using hv)).1.of0
  obtain ⟨c', k1, k2, k3⟩ := fillEs_sound hs hf _ l _ es _ hl hflat hc
  have hlen : es.length = n := by rw [k3]; simp
  obtain ⟨hst, hsim⟩ := step_extra (base := base) (esc := esc) hs (.cells c' e) (w' := w.alloc (.cells c' e)) rfl rfl rfl rfl
  refine ⟨_, .slice (some ⟨w.heap.size, 0, none⟩) n n, ?_, hsim, hst, ?_⟩
  · have hk : Instr.fill (fun i => some (i * s, s)) ((Array.range (n * s)).map (zv.cells[· % zv.cells.size]!)) (ps.toList.map fun (i, x) => (i, a.eval x)) = some c' := k1
    have hnle : ¬ (16777216 < n * s) := by omega
    have r0 : Array.range 0 = #[] := rfl
    by_cases hns : n * s = 0
    · rw [hns, r0] at hk
      simp only [Array.map_empty] at hk
      simp only [Instr.buildSlice, Sem.run_bind, run_underlying hu, Result.andThen_ok, sizeOf_run hsz, hns, r0]
      simp [hk, newRow]
    · simp only [Instr.buildSlice, Sem.run_bind, run_underlying hu, Result.andThen_ok, sizeOf_run hsz]
      rw [if_neg (by omega), if_neg hns]
      simp [zeroValue, typeInfo, hi, hzz] at hk ⊢
      simp [hk, newRow]
  · have himm : Imm ρ w.heap.size := fun b hb => by have := (hs.dom _ _ hb).1; omega
    have hnew : (w.alloc (.cells c' e)).heap[w.heap.size]? = some (.cells c' e (0, 0)) := by show (w.heap.push _)[w.heap.size]? = _; simp
    refine .slice true es _ n n s (fun i j => (c'[i * s + j]?).getD undef) hlen.symm (Nat.le_refl _) (fun _ => rfl) ht hsd hsp (fun _ => ⟨rfl, himm⟩) (fun i j hi hj => ?_) (fun i el cs j x hel hcs hj => ?_)
    · have hlt : i * s + j < c'.size := by
        have : (i + 1) * s ≤ n * s := Nat.mul_le_mul_right _ hi
        rw [Nat.add_mul] at this; have := k2.1; rw [hlen] at this; omega
      simp only [World.cell?, hnew]
      simp [hlt]
    · have hil := lt_of_get hel
      obtain ⟨cs', hcs', hcl, _⟩ := sized_get hsd hel
      rw [hcs] at hcs'; cases hcs'
      have hjs := lt_of_get hj
      have hlt : i * s + j < c'.size := by
        have : (i + 1) * s ≤ es.length * s := Nat.mul_le_mul_right _ hil
        rw [Nat.add_mul] at this; have := k2.1; omega
      have hv : c'[i * s + j]? = some c'[i * s + j] := by simp [hlt]
      rw [hv]
      refine hst.rel (base := base) (esc := esc) (k2.2 i el cs j x _ hel hcs hj (by omega) hv) ?_
      have := top_le_topAll hel
      have := top_cells hcs
      have := top_le_topAll hj
      omega
end
end Go.Av

/-
  The evaluator's operations do what the model's do: strings made bytes, ranges over strings; slices that are not written any more.
-/
namespace Go.Av
section
variable {G : Nat → Option (List AV)} {base : Nat} {esc : Option (List Nat)} {ρ ρ' : Nat → Option Nat} {H H' : List Blk} {w w' : World} {P : Program}

theorem sized_bytes (l : List UInt8) : sized 1 (l.map byteAV) = true := by
  unfold sized
  simp [byteAV, AV.cells, isCell]

theorem topAll_bytes (l : List UInt8) : topAll (l.map byteAV) = 0 := by
  induction l with
  | nil => rfl
  | cons a r ih => simp [topAll, ih, byteAV, AV.top]

theorem bytesRow_get (s : ByteArray) (cap : Nat) (i : Nat) (hi : i < s.data.toList.length) : (bytesRow s cap)[i]? = some (.int .u8 (s.data.toList[i].toNat : Int)) := by
  have h1 : i < s.size := hi
  have h2 : s.data[i]? = some s.data[i] := Array.getElem?_eq_getElem _
  simp [bytesRow, Array.getElem?_append, h1]

theorem bytesRow_size (s : ByteArray) (cap : Nat) (h : s.size ≤ cap) : (bytesRow s cap).size = cap := by
  have : s.data.size = s.size := rfl
  simp [bytesRow]; omega

theorem strBytes_sound (hs : Sim G ρ H w) (hb : base ≤ H.length) {src dst e : TypeId} {s : ByteArray} (hus : P.underlying src = some .string) (hud : P.underlying dst = some (.slice e)) (hue : P.underlying e = some (.int .u8)) :
    ∃ ρ' w' u, (convert src dst (.string s)).run P w = .ok u w' ∧ Sim G ρ' (H ++ [.arr none 1 (s.data.toList.map byteAV)]) w' ∧ Step base esc ρ H w ρ' (H ++ [.arr none 1 (s.data.toList.map byteAV)]) w' ∧
      RelH ρ' (H ++ [.arr none 1 (s.data.toList.map byteAV)]) w' (.mslice H.length 0 s.data.toList.length) u := by
  have hrun := run_bytes_of_string (P := P) w src dst e s hus hud hue
  have hcap := grownCap_ge w s.size 0 e
  have hsz := bytesRow_size s _ hcap
  have hlen : s.data.toList.length = s.size := rfl
  generalize hcr : bytesRow s (grownCap w s.size 0 e) = c at hrun hsz
  have hw : (w.drew.alloc (.cells c e (c.size, c.size + 1))).heap = w.heap.push (.cells c e (c.size, c.size + 1)) := rfl
  have hst := step_push (base := base) (esc := esc) hs hb (.arr none 1 (s.data.toList.map byteAV)) _ hw rfl rfl rfl
  have hnew : (w.drew.alloc (.cells c e (c.size, c.size + 1))).heap[w.heap.size]? = some (.cells c e (c.size, c.size + 1)) := by rw [hw]; simp
  refine ⟨_, _, _, hrun, sim_push hs (.arr none 1 (s.data.toList.map byteAV)) _ hw rfl rfl rfl ?_ (by show topAll _ ≤ _; rw [topAll_bytes]; omega), hst, .ref _ _ rfl rfl ⟨fun g z es h => ?_, fun z es h => ?_⟩⟩
  · refine ⟨w.heap.size, c, e, _, by simp, hnew, by simp, fun o ho => by simp; omega, by simp; omega, by omega, sized_bytes _, fun i el cs j x hel hcs hj => ?_⟩
    simp only [List.getElem?_map, Option.map_eq_some_iff] at hel
    obtain ⟨b, hb', rfl⟩ := hel
    simp [byteAV, AV.cells] at hcs
    subst hcs
    have hil := lt_of_get hb'
    cases j with
    | succ j => simp at hj
    | zero =>
      simp at hj; subst hj
      have := bytesRow_get s (grownCap w s.size 0 e) i hil
      rw [hcr] at this
      refine ⟨_, by simpa using this, ?_⟩
      rw [List.getElem?_eq_getElem hil] at hb'
      cases hb'
      exact .int _ _
  · have hg : (H ++ [Blk.arr none 1 (s.data.toList.map byteAV)])[H.length]? = some (.arr none 1 (s.data.toList.map byteAV)) := by simp
    rw [hg] at h; cases h
    refine ⟨by simp, fun _ => ⟨w.heap.size, grownCap w s.size 0 e, by simp, by simp [hlen], by omega, ?_⟩⟩
    simp only [blockSize, hnew]; omega
  · have hg : (H ++ [Blk.arr none 1 (s.data.toList.map byteAV)])[H.length]? = some (.arr none 1 (s.data.toList.map byteAV)) := by simp
    rw [hg] at h; cases h

theorem frozenBytes_sound (hs : Sim G ρ H w) {src dst e : TypeId} {s : ByteArray} (hus : P.underlying src = some .string) (hud : P.underlying dst = some (.slice e)) (hue : P.underlying e = some (.int .u8)) :
    ∃ w' u, (convert src dst (.string s)).run P w = .ok u w' ∧ Sim G ρ H w' ∧ Step base esc ρ H w ρ H w' ∧ RelH ρ H w' (.slice false (s.data.toList.map byteAV)) u := by
  have hrun := run_bytes_of_string (P := P) w src dst e s hus hud hue
  have hcap := grownCap_ge w s.size 0 e
  have hsz := bytesRow_size s _ hcap
  have hlen : s.data.toList.length = s.size := rfl
  generalize hcr : bytesRow s (grownCap w s.size 0 e) = c at hrun hsz
  have hw : (w.drew.alloc (.cells c e (c.size, c.size + 1))).heap = w.heap.push (.cells c e (c.size, c.size + 1)) := rfl
  obtain ⟨hst, hsim⟩ := step_extra (base := base) (esc := esc) hs _ hw rfl rfl rfl
  have hnew : (w.drew.alloc (.cells c e (c.size, c.size + 1))).heap[w.heap.size]? = some (.cells c e (c.size, c.size + 1)) := by rw [hw]; simp
  have himm : Imm ρ w.heap.size := fun b hb => by have := (hs.dom _ _ hb).1; omega
  refine ⟨_, _, hrun, hsim, hst, .slice false _ _ _ _ 1 (fun i _ => (c[i]?).getD undef) (by simp [hlen]) hcap (by simp) (topAll_bytes _) (sized_bytes _) (by omega) (fun _ => ⟨rfl, himm⟩) (fun i j hi hj => ?_) (fun i el cs j x hel hcs hj => ?_)⟩
  · have : i < c.size := by omega
    have hj0 : j = 0 := by omega
    subst hj0
    simp only [World.cell?, hnew]
    simp [this]
  · simp only [List.getElem?_map, Option.map_eq_some_iff] at hel
    obtain ⟨b, hb', rfl⟩ := hel
    simp [byteAV, AV.cells] at hcs
    subst hcs
    have hil := lt_of_get hb'
    cases j with
    | succ j => simp at hj
    | zero =>
      simp at hj; subst hj
      have := bytesRow_get s (grownCap w s.size 0 e) i hil
      rw [hcr] at this
      rw [this]
      rw [List.getElem?_eq_getElem hil] at hb'
      cases hb'
      exact .int _ _

theorem rangeStr_sound (hs : Sim G ρ H w) (hb : base ≤ H.length) {t : TypeId} {s : ByteArray} (hu : P.underlying t = some .string) :
    ∃ ρ' w' u, (Instr.range t (.string s)).run P w = .ok u w' ∧ Sim G ρ' (H ++ [.siter s.data.toList 0]) w' ∧ Step base esc ρ H w ρ' (H ++ [.siter s.data.toList 0]) w' ∧ RelH ρ' (H ++ [.siter s.data.toList 0]) w' (.iter H.length) u := by
  have hst := step_push (base := base) (esc := esc) hs hb (.siter s.data.toList 0) (.stringIter s 0) (w' := w.alloc (.stringIter s 0)) rfl rfl rfl rfl
  have hnew : (w.alloc (.stringIter s 0)).heap[w.heap.size]? = some (.stringIter s 0) := by show (w.heap.push _)[w.heap.size]? = _; simp
  refine ⟨_, w.alloc (.stringIter s 0), .pointer (some ⟨w.heap.size, 0, none⟩), by simp [Instr.range, run_underlying hu], sim_push hs (.siter s.data.toList 0) _ rfl rfl rfl rfl ⟨w.heap.size, s, by simp, rfl, hnew⟩ (by show 0 ≤ _; omega), hst, .ref _ _ rfl rfl (fun l p h => ⟨w.heap.size, by simp, rfl⟩)⟩

theorem utf8At_eq (S : ByteArray) (p : Nat) : utf8At S.data.toList p = Utf8.decode S p := by
  unfold utf8At
  congr

theorem nextStr_sound (hs : Sim G ρ H w) {b : Nat} {l : List UInt8} {p : Nat} {v : Value} {ty : TypeId} (hb : H[b]? = some (.siter l p)) (hr : RelH ρ H w (.iter b) v) :
    if p < l.length then ∃ w' u, (Instr.next v true ty).run P w = .ok u w' ∧ Sim G ρ (H.set b (.siter l (p + (utf8At l p).2))) w' ∧ Step base esc ρ H w ρ (H.set b (.siter l (p + (utf8At l p).2))) w' ∧
        RelH ρ (H.set b (.siter l (p + (utf8At l p).2))) w' (.tuple [.bool true, .int .i64 p, .int .i32 (utf8At l p).1]) u
      else (Instr.next v true ty).run P w = .ok (.tuple #[.bool false]) w := by
  obtain ⟨β, hβ, rfl⟩ := (hr.ref_inv rfl).1 l p hb
  obtain ⟨β', S, h1, h2, h3⟩ := hs.blk b _ hb
  rw [hβ] at h1; simp at h1; subst h1
  subst h2
  have hl : S.data.toList.length = S.size := rfl
  have hget : (getObj β).run P w = .ok (.stringIter S p) w := by simp [getObj, Sem.run, h3]
  split
  · rename_i hlt
    rw [hl] at hlt
    have hset : (setObj β (.stringIter S (p + (Utf8.decode S p).2))).run P w = .ok () { w with heap := w.heap.setIfInBounds β (.stringIter S (p + (Utf8.decode S p).2)) } := by simp [setObj, Sem.run, h3]
    have hβlt := (hs.dom _ _ hβ).1
    have hstep : Step base esc ρ H w ρ (H.set b (.siter S.data.toList (p + (utf8At S.data.toList p).2))) { w with heap := w.heap.setIfInBounds β (.stringIter S (p + (Utf8.decode S p).2)) } :=
      step_set hs b (.siter S.data.toList p) _ hb (fun _ _ => rfl) rfl rfl rfl (by simp) (fun β' _ hne => by
          have : β ≠ β' := fun h => hne (by rw [hβ, h])
          simp [this]) (fun β' h => .inl h)
        (fun _ a' v' ha' hbk hr' => by
          have hgb : (H.set b (.siter S.data.toList (p + (utf8At S.data.toList p).2)))[b]? = some (.siter S.data.toList (p + (utf8At S.data.toList p).2)) := List.getElem?_set_self (lt_of_get hb)
          cases a' with
          | mptr b' o' => simp [AV.blk] at hbk; subst hbk; intro ty cs h; rw [hgb] at h; simp at h
          | eptr b' => simp [AV.blk] at hbk; subst hbk; intro g s es h; rw [hgb] at h; simp at h
          | mslice b' => simp [AV.blk] at hbk; subst hbk; exact ⟨fun g s es h => by rw [hgb] at h; simp at h, fun s es h => by rw [hgb] at h; simp at h⟩
          | map b' => simp [AV.blk] at hbk; subst hbk; intro kd m h; rw [hgb] at h; simp at h
          | iter b' => simp [AV.blk] at hbk; subst hbk; intro l' p' h; exact hr' _ _ hb
          | _ => simp [AV.isRef] at ha')
        (fun _ _ _ _ _ => Nat.zero_le _)
    refine ⟨_, .tuple #[.bool true, goInt p, .int .i32 (Utf8.decode S p).1], ?_, ?_, hstep, ?_⟩
    · simp only [Instr.next, Sem.run_bind, hget, Result.andThen_ok]
      rw [if_pos hlt]
      simp [hset]
    · refine sim_set hs b (.siter S.data.toList p) _ hb (fun _ _ => rfl) hstep (fun β' _ hne => by
          have : β ≠ β' := fun h => hne (by rw [hβ, h])
          simp [this]) (fun β' h => .inl h) (fun β' h => by have := (hs.dom _ _ h).1; simpa using this) ⟨β, S, hβ, rfl, ?_⟩ (Nat.zero_le _)
      rw [utf8At_eq]
      simp [hβlt]
    · refine .tuple _ _ rfl (fun i c v hc hv => ?_)
      match i with
      | 0 => simp at hc hv; subst hc; subst hv; exact .bool _
      | 1 => simp at hc hv; subst hc; subst hv; exact .int _ _
      | 2 => simp at hc hv; subst hc; subst hv; rw [utf8At_eq]; exact .int _ _
      | k + 3 => simp at hc
  · rename_i hlt
    rw [hl] at hlt
    simp only [Instr.next, Sem.run_bind, hget, Result.andThen_ok]
    rw [if_neg hlt]
    rfl
end
end Go.Av

/-
  The evaluator's operations do what the model's do: a slice written out that is marked as a string's bytes.
-/
namespace Go.Av
section
variable {G : Nat → Option (List AV)} {base : Nat} {esc : Option (List Nat)} {ρ ρ' : Nat → Option Nat} {H H' : List Blk} {w w' : World} {P : Program}

theorem mkSliceM_sound {fr : List (Nat × AV)} {a : Act} (hs : Sim G ρ H w) (hb : base ≤ H.length) (hf : FrRel ρ H w fr a.tmps) {t e : TypeId} {n s : Nat} {ag : Bool} {z : List AV} {za : AV} {es : List AV} {ps : Array (Nat × Operand)} {l : List (Nat × Opd)}
    (hu : P.underlying t = some (.slice e)) (hsz : sizeT P e = some s) (hz : zeroT P e = some z) (hsp : 0 < s) (hzl : z.length = s) (hn : n * s ≤ 16777216) (hza : (if ag then some (AV.agg z) else z[0]?) = some za)
    (hag : isAggT P e = some ag) (hone : ag = false → s = 1)
    (hl : cPartsL ps.toList = some l) (hc : fillEs G fr s (List.replicate n za) l = some es) (ht : topAll es = 0) (hsd : sized s es = true) :
    ∃ ρ' w' u, (Instr.buildSlice t n (ps.map fun (i, x) => (i, a.eval x))).run P w = .ok u w' ∧ Sim G ρ' (H ++ [.arr (some e) s es]) w' ∧ Step base esc ρ H w ρ' (H ++ [.arr (some e) s es]) w' ∧ RelH ρ' (H ++ [.arr (some e) s es]) w' (.mslice H.length 0 n) u := by
  obtain ⟨inf, zv, hi, hzz, hz'⟩ := zeroT_inv hz
  obtain ⟨h1, h2, h3⟩ := allAV0_rel (ρ := ρ) (w := w) hz'
  have hzs : zv.cells.size = s := by rw [← hzl]; simpa using h1.symm
  obtain ⟨r1, r2⟩ := range_cells (n := n) hzs hsp
  have hzac : za.cells = some z := by
    cases ag with
    | true => simp at hza; subst hza; rfl
    | false =>
      have := hone rfl
      simp at hza
      match z, hzl with
      | [x], _ =>
        simp at hza; subst hza
        have hcx := (h3 0 x (zv.cells[0]'(by omega)) rfl (by rw [Array.getElem?_toList]; simp)).2
        cases x <;> simp [isCell] at hcx <;> rfl
      | [], hh => exact absurd hh (by simp; omega)
      | _ :: _ :: _, hh => exact absurd hh (by simp; omega)
  have hflat : Flat (RelH ρ H w) s (List.replicate n za) ((Array.range (n * s)).map (zv.cells[· % zv.cells.size]!)) := by
    refine ⟨by rw [r1]; simp, fun i el cs j x v hel hcs hj hjs hv => ?_⟩
    have hin := lt_of_get hel
    simp at hin
    rw [List.getElem?_replicate, if_pos hin] at hel
    cases hel
    rw [hzac] at hcs; cases hcs
    rw [r2 i j hin hjs] at hv
    exact (h3 j x v hj (by simpa using hv)).1.of0
  obtain ⟨c', k1, k2, k3⟩ := fillEs_sound hs hf _ l _ es _ hl hflat hc
  have hlen : es.length = n := by rw [k3]; simp
  have hw : (w.alloc (.cells c' e)).heap = w.heap.push (.cells c' e) := rfl
  have hst := step_push (base := base) (esc := esc) hs hb (.arr (some e) s es) _ hw rfl rfl rfl
  have hnew : (w.alloc (.cells c' e)).heap[w.heap.size]? = some (.cells c' e (0, 0)) := by rw [hw]; simp
  have hg : (H ++ [Blk.arr (some e) s es])[H.length]? = some (.arr (some e) s es) := by simp
  refine ⟨_, _, .slice (some ⟨w.heap.size, 0, none⟩) n n, ?_, sim_push hs (.arr (some e) s es) _ hw rfl rfl rfl ?_ (by show topAll _ ≤ _; omega), hst, .ref _ _ rfl rfl ⟨fun g z' es' h => ?_, fun z' es' h => ?_⟩⟩
  · have hk : Instr.fill (fun i => some (i * s, s)) ((Array.range (n * s)).map (zv.cells[· % zv.cells.size]!)) (ps.toList.map fun (i, x) => (i, a.eval x)) = some c' := k1
    have hnle : ¬ (16777216 < n * s) := by omega
    have r0 : Array.range 0 = #[] := rfl
    by_cases hns : n * s = 0
    · rw [hns, r0] at hk
      simp only [Array.map_empty] at hk
      simp only [Instr.buildSlice, Sem.run_bind, run_underlying hu, Result.andThen_ok, sizeOf_run hsz, hns, r0]
      simp [hk, newRow]
    · simp only [Instr.buildSlice, Sem.run_bind, run_underlying hu, Result.andThen_ok, sizeOf_run hsz]
      rw [if_neg (by omega), if_neg hns]
      simp [zeroValue, typeInfo, hi, hzz] at hk ⊢
      simp [hk, newRow]
  · refine ⟨w.heap.size, c', e, (0, 0), by simp, hnew, fun ty h => by cases h; exact ⟨rfl, rfl⟩, fun o _ => by simp, by have := k2.1; omega, hsp, hsd, fun i el cs j x hel hcs hj => ?_⟩
    have hil := lt_of_get hel
    obtain ⟨cs', hcs', hcl, _⟩ := sized_get hsd hel
    rw [hcs] at hcs'; cases hcs'
    have hjs := lt_of_get hj
    have hlt : i * s + j < c'.size := by
      have : (i + 1) * s ≤ es.length * s := Nat.mul_le_mul_right _ hil
      rw [Nat.add_mul] at this; have := k2.1; omega
    have hv : c'[i * s + j]? = some c'[i * s + j] := by simp [hlt]
    refine ⟨_, hv, hst.rel (k2.2 i el cs j x _ hel hcs hj (by omega) hv) ?_⟩
    have := top_le_topAll hel
    have := top_cells hcs
    have := top_le_topAll hj
    omega
  · rw [hg] at h; cases h
    refine ⟨by omega, fun _ => ⟨w.heap.size, n, by simp, by simp, Nat.le_refl _, ?_⟩⟩
    have hcs : c'.size = n * s := by have := k2.1; rw [hlen] at this; exact this
    simp only [blockSize, hnew, Nat.zero_add, hcs]
  · rw [hg] at h; cases h

theorem mark_sound (hs : Sim G ρ H w) {t e : TypeId} (hu : P.underlying t = some (.slice e)) (hue : P.underlying e = some (.int .u8)) {b off len s ty : Nat} {es : List AV} (hb : H[b]? = some (.arr (some ty) s es)) (hl : off + len = es.length)
    {v : Value} (hr : RelH ρ H w (.mslice b off len) v) :
    ∃ w', (convert t t v).run P w = .ok v w' ∧ Sim G ρ (H.set b (.arr none s es)) w' ∧ Step base esc ρ H w ρ (H.set b (.arr none s es)) w' ∧ RelH ρ (H.set b (.arr none s es)) w' (.mslice b off len) v := by
  obtain ⟨β, cap, hρ, rfl, hcap, hbs⟩ := ((hr.ref_inv rfl).1.1 (some ty) s es hb).2 hl
  obtain ⟨β', c, el, fz, h1, h2, h3, h4, h5, h6, h7, h8⟩ := hs.blk b _ hb
  rw [hρ] at h1
  cases h1
  have hfz := (h3 ty rfl).1
  subst hfz
  have hβ := (hs.dom _ _ hρ).1
  have hnew : (w.freeze { block := β, off := c.size } 1).heap[β]? = some (.cells c el (c.size, c.size + 1)) := by
    simp [World.freeze, Array.getElem?_modify, h2]
  have hold : ∀ γ, γ ≠ β → (w.freeze { block := β, off := c.size } 1).heap[γ]? = w.heap[γ]? := fun γ hγ => by
    simp [World.freeze, Array.getElem?_modify, Ne.symm hγ]
  have hsize : (w.freeze { block := β, off := c.size } 1).heap.size = w.heap.size := by simp [World.freeze]
  have ho1 : (w.freeze { block := β, off := c.size } 1).os = w.os := rfl
  have ho2 : (w.freeze { block := β, off := c.size } 1).tape = w.tape := rfl
  have ho3 : (w.freeze { block := β, off := c.size } 1).output = w.output := rfl
  generalize hwf : w.freeze { block := β, off := c.size } 1 = w2 at hnew hold hsize ho1 ho2 ho3
  have hkeep : ∀ γ, γ < w.heap.size → ρ b ≠ some γ → w2.heap[γ]? = w.heap[γ]? := fun γ _ hne => hold γ fun h => hne (by rw [hρ, h])
  have hset : (H.set b (.arr none s es))[b]? = some (.arr none s es) := List.getElem?_set_self (lt_of_get hb)
  have hbsz : blockSize w2 β = blockSize w β := by simp only [blockSize, hnew, h2]
  have hk : (∀ a v, Rel0 ρ w a v → Rel0 ρ w2 a v) → ∀ a v, a.isRef = true → a.blk = b → RefRel ρ H w a v → RefRel ρ (H.set b (.arr none s es)) w2 a v := by
    intro h0 a v hra hab h
    cases a with
    | mptr b' o => simp only [AV.blk] at hab; subst hab; intro ty cs hcs; rw [hset] at hcs; cases hcs
    | eptr b' n i o =>
      simp only [AV.blk] at hab; subst hab
      intro g z es' he
      rw [hset] at he; cases he
      exact h (some ty) s es hb
    | mslice b' o n =>
      simp only [AV.blk] at hab; subst hab
      refine ⟨fun g z es' he => ?_, fun z es' he => ?_⟩
      · rw [hset] at he; cases he
        obtain ⟨k1, k2⟩ := h.1 (some ty) s es hb
        refine ⟨k1, fun hh => ?_⟩
        obtain ⟨γ, cp, m1, m2, m3, m4⟩ := k2 hh
        rw [hρ] at m1; cases m1
        exact ⟨β, cp, hρ, m2, m3, by rw [hbsz]; exact m4⟩
      · rw [hset] at he; cases he
    | map b' => simp only [AV.blk] at hab; subst hab; intro kd m hm; rw [hset] at hm; cases hm
    | iter b' => simp only [AV.blk] at hab; subst hab; intro m p hm; rw [hset] at hm; cases hm
    | _ => simp [AV.isRef] at hra
  have hst : Step base esc ρ H w ρ (H.set b (.arr none s es)) w2 := step_set hs b _ (.arr none s es) hb (fun _ _ => rfl) ho1 ho2 ho3 (by rw [hsize]; exact Nat.le_refl _) hkeep (fun γ h => .inl h) hk (fun t _ _ _ h => h)
  have htop := hs.tops b _ (lt_of_get hb) hb
  have hsim : Sim G ρ (H.set b (.arr none s es)) w2 := by
    refine sim_set hs b _ (.arr none s es) hb (fun _ _ => rfl) hst hkeep (fun γ h => .inl h) (fun γ h => by rw [hsize]; exact (hs.dom _ _ h).1) ?_ htop
    refine ⟨β, c, el, _, hρ, hnew, (fun _ h => by cases h), fun o ho => by simp; omega, h5, h6, h7, fun i e' cs j x q1 q2 q3 => ?_⟩
    obtain ⟨v, m1, m2⟩ := h8 i e' cs j x q1 q2 q3
    refine ⟨v, m1, hst.rel m2 ?_⟩
    have a1 := top_le_topAll q1
    have a2 := top_cells q2
    have a3 := top_le_topAll q3
    have : (Blk.arr (some ty) s es).top = topAll es := rfl
    omega
  refine ⟨w2, ?_, hsim, hst, .ref _ _ rfl rfl (hk (fun a v h => hst.rel0 h) _ _ rfl rfl (hr.ref_inv rfl).1)⟩
  simp only [convert, Sem.run_bind, run_underlying hu, Result.andThen_ok, run_underlying hue]
  simp [markStringish, World.shape?, h2, hwf]
end
end Go.Av
