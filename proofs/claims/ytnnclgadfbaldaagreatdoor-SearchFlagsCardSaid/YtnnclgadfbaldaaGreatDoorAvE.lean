/-
  What a call is given, as the evaluator's values: bools, numbers, strings, slices, structs, arrays.
-/
import Derived.Test.YtnnclgadfbaldaaGreatDoorAvD
import Derived.ProofKit
import Derived.OpenShut
import Derived.ChangeStays
import Derived.ChangeBears
import Derived.LaidMore
import Derived.LaidLaws
import Derived.HandedShaped
import Derived.Stop.Joined
namespace Go.Av
open Go.RowKit
section
variable {H : Type}

mutual
/-- A datum's cells. -/
def avC : DataW H → List AV
  | .lit (.bool b) => [.bool b]
  | .lit (.int k n) => [.int k n]
  | .lit (.string s) => [.str s]
  | .lit _ => [.undef]
  | .nil => [.nilslice]
  | .slice es _ => [.slice false (avEs es)]
  | .agg ps => avCs ps
  | .ptr _ => [.undef]
  | .iface _ _ => [.undef]
  | .map _ => [.undef]
  | .held _ => [.undef]
def avCs : List (DataW H) → List AV
  | [] => []
  | d :: r => avC d ++ avCs r
def avEs : List (DataW H) → List AV
  | [] => []
  | d :: r => avV d :: avEs r
/-- A datum, as a value. -/
def avV : DataW H → AV
  | .agg ps => .agg (avCs ps)
  | .lit (.bool b) => .bool b
  | .lit (.int k n) => .int k n
  | .lit (.string s) => .str s
  | .lit _ => .undef
  | .nil => .nilslice
  | .slice es _ => .slice false (avEs es)
  | .ptr _ => .undef
  | .iface _ _ => .undef
  | .map _ => .undef
  | .held _ => .undef
end

theorem avC_one (d : DataW H) (h : ∀ ps, d ≠ .agg ps) : avC d = [avV d] := by
  cases d with
  | lit l => cases l <;> simp [avC, avV]
  | agg ps => exact absurd rfl (h ps)
  | _ => simp [avC, avV]

theorem avV_cells (d : DataW H) (h : (avC d).all isCell = true) : (avV d).cells = some (avC d) := by
  by_cases ha : ∃ ps, d = .agg ps
  · obtain ⟨ps, rfl⟩ := ha
    simp [avV, avC, AV.cells]
  · rw [avC_one d (fun ps e => ha ⟨ps, e⟩)] at h ⊢
    simp at h
    cases hv : avV d <;> rw [hv] at h <;> simp [isCell] at h <;> rfl

theorem avEs_length (l : List (DataW H)) : (avEs l).length = l.length := by
  induction l with
  | nil => simp [avEs]
  | cons d r ih => simp [avEs, ih]
theorem avEs_get (l : List (DataW H)) (i : Nat) : (avEs l)[i]? = (l[i]?).map avV := by
  induction l generalizing i with
  | nil => simp [avEs]
  | cons d r ih =>
    cases i with
    | zero => simp [avEs]
    | succ i => simpa [avEs] using ih i
end

/-- A value of a type. -/
inductive Typed (P : Program) : TypeId → List AV → Prop
  | bool (t : TypeId) (b : Bool) (h : P.underlying t = some .bool) : Typed P t [.bool b]
  | int (t : TypeId) (k : IntKind) (n : Int) (h : P.underlying t = some (.int k)) (hw : (Lit.int k n).wf = true) : Typed P t [.int k n]
  | str (t : TypeId) (s : List UInt8) (h : P.underlying t = some .string) (hl : s.length ≤ maxLen) : Typed P t [.str s]
  | nil (t e : TypeId) (h : P.underlying t = some (.slice e)) : Typed P t [.nilslice]
  | slice (t e : TypeId) (es : List AV) (f : Nat → List AV) (h : P.underlying t = some (.slice e)) (hl : es.length ≤ maxLen) (hf : ∀ (i : Nat) x, es[i]? = some x → x.cells = some (f i)) (he : ∀ i, i < es.length → Typed P e (f i)) : Typed P t [.slice false es]
  | struct (t : TypeId) (fs : Array Field) (cs : List AV) (h : P.underlying t = some (.struct fs)) (hl : cs.length = P.cellsOf t) (hf : ∀ (i : Nat) f, fs[i]? = some f → Typed P f.type ((cs.drop f.offset).take (P.cellsOf f.type))) : Typed P t cs
  | array (t e : TypeId) (n : Nat) (cs : List AV) (h : P.underlying t = some (.array n e)) (hl : cs.length = P.cellsOf t) (hf : ∀ i, i < n → Typed P e ((cs.drop (i * P.cellsOf e)).take (P.cellsOf e))) : Typed P t cs

abbrev noBlk : Nat → Option Nat := fun _ => none
theorem imm_none (β : Nat) : Imm noBlk β := fun _ h => by cases h

structure CellsAv (w : World) (as : List AV) (cs : List Value) : Prop where
  len : as.length = cs.length
  top : topAll as = 0
  cell : as.all isCell = true
  rel : ∀ (i : Nat) a v, as[i]? = some a → cs[i]? = some v → Rel0 noBlk w a v

section
variable {H : Type} {enc : TypeId × Value → H} {P : Program} {w : World} {sp : Nat → Bool} {held : Bool} {T : TypeId → Prop}

theorem CellsAv.one {a : AV} {v : Value} (hr : Rel0 noBlk w a v) (ht : a.top = 0) (hc : isCell a = true) : CellsAv w [a] [v] :=
  ⟨rfl, by simp [topAll, ht], by simp [hc], fun i x y hx hy => by
    cases i with
    | zero => simp at hx hy; subst hx; subst hy; exact hr
    | succ i => simp at hx⟩

theorem CellsAv.append {a b : List AV} {c d : List Value} (h : CellsAv w a c) (k : CellsAv w b d) : CellsAv w (a ++ b) (c ++ d) :=
  ⟨by simp [h.len, k.len], by rw [topAll_append, h.top, k.top]; rfl, by rw [List.all_append, h.cell, k.cell]; rfl, fun i x y hx hy => by
    by_cases hi : i < a.length
    · rw [List.getElem?_append_left hi] at hx
      rw [List.getElem?_append_left (by rw [← h.len]; exact hi)] at hy
      exact h.rel i x y hx hy
    · rw [List.getElem?_append_right (by omega)] at hx
      rw [List.getElem?_append_right (by rw [← h.len]; omega), ← h.len] at hy
      exact k.rel _ x y hx hy⟩

/-- Parts that lie one behind the other. -/
theorem concat_av : ∀ (ss : List Nat) (ds : List (DataW H)) (cs : List Value), ss.length = ds.length → cs.length = ss.sum →
    (∀ (i : Nat) s d, ss[i]? = some s → ds[i]? = some d → CellsAv w (avC d) ((cs.drop (ss.take i).sum).take s)) → CellsAv w (avCs ds) cs
  | [], [], cs, _, hc, _ => by
    have : cs = [] := List.eq_nil_of_length_eq_zero (by simpa using hc)
    subst this
    exact ⟨by simp [avCs], by simp [avCs, topAll], by simp [avCs], fun i a v h => by simp [avCs] at h⟩
  | s :: ss, d :: ds, cs, hl, hc, h => by
    have h0 := h 0 s d rfl rfl
    simp at h0
    have h1 := concat_av ss ds (cs.drop s) (by simpa using hl) (by simp at hc ⊢; omega) (fun i s' d' hs hd => by
      have := h (i + 1) s' d' (by simpa using hs) (by simpa using hd)
      rw [List.drop_drop]
      simpa [Nat.add_comm] using this)
    have := h0.append h1
    rw [List.take_append_drop] at this
    simpa [avCs] using this
  | [], _ :: _, _, hl, _, _ => by simp at hl
  | _ :: _, [], _, hl, _, _ => by simp at hl

theorem avCs_part : ∀ (ss : List Nat) (ds : List (DataW H)), ss.length = ds.length → (∀ (i : Nat) s d, ss[i]? = some s → ds[i]? = some d → (avC d).length = s) →
    ∀ (i : Nat) s d, ss[i]? = some s → ds[i]? = some d → ((avCs ds).drop (ss.take i).sum).take s = avC d
  | [], [], _, _, i, s, d, hs, _ => by simp at hs
  | s0 :: ss, d0 :: ds, hl, h, i, s, d, hs, hd => by
    have h0 := h 0 s0 d0 rfl rfl
    cases i with
    | zero =>
      simp at hs hd; subst hs; subst hd
      simp [avCs, ← h0]
    | succ i =>
      have := avCs_part ss ds (by simpa using hl) (fun j s d hs hd => h (j + 1) s d (by simpa using hs) (by simpa using hd)) i s d (by simpa using hs) (by simpa using hd)
      simp only [avCs, List.take_succ_cons, List.sum_cons]
      rw [← h0, ← List.drop_drop, List.drop_left]
      exact this
  | [], _ :: _, hl, _, _, _, _, _, _ => by simp at hl
  | _ :: _, [], hl, _, _, _, _, _, _ => by simp at hl

theorem cells?_get {w : World} {base : Nat} {a : Addr} {n : Nat} {l : List Value} (h : w.cells? base a n = some l) : l.length = n ∧ ∀ j, j < n → w.cell? (a.add j) = l[j]? := by
  unfold World.cells? at h
  split at h
  · have h1 := mapM_some_length h
    refine ⟨by simpa using h1, fun j hj => ?_⟩
    have := mapM_some_get h j j (by simp [hj])
    exact this
  · cases h

theorem spot_of_cell {w : World} {a : Addr} {v : Value} (h : w.cell? a = some v) : a.spot = none := by
  unfold World.cell? at h
  split at h
  · split at h
    · cases h
    · rename_i hs
      cases hsp : a.spot with
      | none => rfl
      | some x => rw [hsp] at hs; simp at hs
  · cases h

theorem add_add_none {a : Addr} {x j : Nat} (h : ((a.add x).add j).spot = none) : (a.add x).add j = ⟨a.block, a.off + x + j, none⟩ := by
  obtain ⟨b, o, s⟩ := a
  unfold Addr.add at h ⊢
  by_cases hx : x = 0 <;> by_cases hj : j = 0 <;> simp_all

/-- Kinds that are values. -/
def plainT (P : Program) (t : TypeId) : Bool := match P.underlying t with
  | some .bool => true
  | some (.int _) => true
  | some .string => true
  | some (.slice _) => true
  | some (.struct _) => true
  | some (.array _ _) => true
  | _ => false

theorem trod_av (K : Kids P T) (hsz : ∀ {t e : TypeId}, T t → P.underlying t = some (.slice e) → 0 < P.cellsOf e) (hpl : ∀ {t : TypeId}, T t → plainT P t = true) :
    ∀ (n : Nat) (t : TypeId) (cs : List Value) (x : DataW H × List MemPlace), T t → DataW.trod enc P w 0 sp held n t cs = some x → CellsAv w (avC x.1) cs ∧ Typed P t (avC x.1) := by
  intro n
  induction n with
  | zero => intro t cs x _ h; simp [DataW.trod] at h
  | succ n ih =>
    intro t cs x hT h
    have hp := hpl hT
    unfold plainT at hp
    split at hp
    · rename_i hu
      obtain ⟨b, rfl, rfl⟩ := DataW.trod_bool hu h
      simp only [avC]
      exact ⟨.one (.bool b) rfl rfl, .bool t b hu⟩
    · rename_i k hu
      obtain ⟨m, rfl, rfl, hw⟩ := DataW.trod_int hu h
      simp only [avC]
      exact ⟨.one (.int k m) rfl rfl, .int t k m hu hw⟩
    · rename_i hu
      obtain ⟨s, rfl, rfl, hl⟩ := DataW.trod_string hu h
      simp only [avC]
      exact ⟨.one (.str s _ rfl) rfl rfl, .str t _ hu (by simpa using hl)⟩
    · rename_i e hu
      rcases DataW.trod_slice hu h with ⟨rfl, rfl⟩ | ⟨a, len, cap, elems, rest, m, hm, rfl, rfl, hb, hlc, hcm, hlen, hel, _⟩
      · simp only [avC]
        exact ⟨.one .nilslice rfl rfl, .nil t e hu⟩
      · cases hm
        have hs := hsz hT hu
        have hTe := K.slice hT hu
        have key : ∀ i, i < len → ∃ (c : List Value) (y : DataW H × List MemPlace), elems[i]? = some y ∧ c.length = P.cellsOf e ∧ (∀ j, j < P.cellsOf e → w.cell? ⟨a.block, a.off + i * P.cellsOf e + j, none⟩ = c[j]? ∧ ((a.add (i * P.cellsOf e)).add j).spot = none) ∧ CellsAv w (avC y.1) c ∧ Typed P e (avC y.1) := by
          intro i hi
          have h1 := hel i hi
          obtain ⟨y, hy⟩ : ∃ y, elems[i]? = some y := ⟨_, List.getElem?_eq_getElem (by omega)⟩
          rw [hy] at h1
          simp only [Option.bind_eq_some_iff] at h1
          obtain ⟨c, hc, hd⟩ := h1
          obtain ⟨k1, k2⟩ := cells?_get hc
          obtain ⟨q1, q2⟩ := ih e c y hTe hd
          refine ⟨c, y, hy, k1, fun j hj => ?_, q1, q2⟩
          have h2 := k2 j hj
          have h3 : c[j]? = some c[j] := List.getElem?_eq_getElem (by omega)
          have h4 := spot_of_cell (h2.trans h3)
          rw [add_add_none h4] at h2
          exact ⟨h2, h4⟩
        have hget : ∀ (i : Nat) x, (avEs (elems.map (·.1)))[i]? = some x → ∃ y, elems[i]? = some y ∧ x = avV y.1 := by
          intro i x hx
          rw [avEs_get, List.getElem?_map] at hx
          simp only [Option.map_map, Option.map_eq_some_iff, Function.comp] at hx
          obtain ⟨y, hy, rfl⟩ := hx
          exact ⟨y, hy, rfl⟩
        have hlen2 : (avEs (elems.map (·.1))).length = len := by rw [avEs_length]; simpa using hlen
        have htop : topAll (avEs (elems.map (·.1))) = 0 := by
          refine Nat.le_zero.1 (topAll_le fun i x hx => ?_)
          obtain ⟨y, hy, rfl⟩ := hget i x hx
          have hi : i < len := by have := lt_of_get hy; omega
          obtain ⟨c, y', hy', _, _, q1, _⟩ := key i hi
          rw [hy] at hy'; cases hy'
          have := top_cells (avV_cells y.1 q1.cell)
          rw [q1.top] at this
          omega
        simp only [avC]
        refine ⟨.one (.slice false _ a len cap (P.cellsOf e) (fun i j => (w.cell? ⟨a.block, a.off + i * P.cellsOf e + j, none⟩).getD undef) hlen2.symm hlc (by simp) htop ?_ hs (fun h0 => ⟨?_, imm_none _⟩) (fun i j hi hj => ?_) (fun i x cs j c hx hcs hj => ?_)) rfl rfl, ?_⟩
        · simp only [sized, List.all_eq_true]
          intro x hx
          obtain ⟨i, hi⟩ := List.getElem?_of_mem hx
          obtain ⟨y, hy, rfl⟩ := hget i x hi
          obtain ⟨c, y', hy', k1, _, q1, _⟩ := key i (by have := lt_of_get hy; omega)
          rw [hy] at hy'; cases hy'
          rw [avV_cells y.1 q1.cell]
          simp [q1.len, k1]
          simpa using q1.cell
        · obtain ⟨c, y', _, _, k2, _⟩ := key 0 (by omega)
          have := (k2 0 hs).2
          simpa [Addr.add] using this
        · obtain ⟨c, y', _, k1, k2, _⟩ := key i hi
          have := (k2 j hj).1
          rw [List.getElem?_eq_getElem (by omega)] at this
          simp [this]
        · obtain ⟨y, hy, rfl⟩ := hget i x hx
          obtain ⟨c', y', hy', k1, k2, q1, _⟩ := key i (by have := lt_of_get hy; omega)
          rw [hy] at hy'; cases hy'
          rw [avV_cells y.1 q1.cell] at hcs
          cases hcs
          have hj' := lt_of_get hj
          rw [q1.len, k1] at hj'
          have := (k2 j hj').1
          rw [this]
          have h3 : c'[j]? = some c'[j] := List.getElem?_eq_getElem (by omega)
          rw [h3]
          exact q1.rel j c _ hj h3
        · refine .slice t e _ (fun i => match elems[i]? with | some y => avC y.1 | none => []) hu (by rw [hlen2]; omega) (fun i x hx => ?_) (fun i hi => ?_)
          · obtain ⟨y, hy, rfl⟩ := hget i x hx
            obtain ⟨c', y', hy', _, _, q1, _⟩ := key i (by have := lt_of_get hy; omega)
            rw [hy] at hy'; cases hy'
            rw [hy]
            exact avV_cells y.1 q1.cell
          · obtain ⟨c', y', hy', _, _, _, q2⟩ := key i (by omega)
            rw [hy']
            exact q2
    · rename_i fs hu
      obtain ⟨xs, m, hm, rfl, hcl, hxl, hfd⟩ := DataW.trod_struct hu h
      cases hm
      obtain ⟨hTf, hsum, hoff⟩ := K.struct hT hu
      have hpart : ∀ (i : Nat) f x, fs[i]? = some f → xs[i]? = some x → CellsAv w (avC x.1) ((cs.drop f.offset).take (P.cellsOf f.type)) ∧ Typed P f.type (avC x.1) := fun i f x hf hx =>
        ih f.type _ x (hTf f (by simpa using List.mem_of_getElem? (by simpa using hf : fs.toList[i]? = some f))) ((hfd i f hf).trans hx)
      have hget : ∀ (i : Nat) s (d : DataW H), (fs.toList.map fun f => P.cellsOf f.type)[i]? = some s → (xs.map (·.1))[i]? = some d → ∃ f x, fs[i]? = some f ∧ xs[i]? = some x ∧ s = P.cellsOf f.type ∧ d = x.1 := by
        intro i s d hs hd
        rw [List.getElem?_map] at hs hd
        simp only [Option.map_eq_some_iff] at hs hd
        obtain ⟨f, hf, rfl⟩ := hs
        obtain ⟨x, hx, rfl⟩ := hd
        exact ⟨f, x, by simpa using hf, hx, rfl, rfl⟩
      have hoff' : ∀ (i : Nat) f, fs[i]? = some f → f.offset = ((fs.toList.map fun f => P.cellsOf f.type).take i).sum := fun i f hf => by
        rw [← List.map_take]
        exact hoff i f (by simpa using hf)
      have hA : CellsAv w (avCs (xs.map (·.1))) cs := by
        refine concat_av (fs.toList.map fun f => P.cellsOf f.type) (xs.map (·.1)) cs (by simp [hxl]) (by rw [hcl, hsum]) (fun i s d hs hd => ?_)
        obtain ⟨f, x, hf, hx, rfl, rfl⟩ := hget i s d hs hd
        rw [← hoff' i f hf]
        exact (hpart i f x hf hx).1
      simp only [avC]
      refine ⟨hA, .struct t fs _ hu (by rw [hA.len, hcl]) (fun i f hf => ?_)⟩
      have hil : i < fs.size := by
        rcases Nat.lt_or_ge i fs.size with h | h
        · exact h
        · rw [Array.getElem?_eq_none h] at hf; cases hf
      obtain ⟨x, hx⟩ : ∃ x, xs[i]? = some x := ⟨_, List.getElem?_eq_getElem (by omega)⟩
      obtain ⟨p1, p2⟩ := hpart i f x hf hx
      have hlp : ∀ (i : Nat) s (d : DataW H), (fs.toList.map fun f => P.cellsOf f.type)[i]? = some s → (xs.map (·.1))[i]? = some d → (avC d).length = s := fun i s d hs hd => by
        obtain ⟨f, x, hf, hx, rfl, rfl⟩ := hget i s d hs hd
        have h1 := (hpart i f x hf hx).1.len
        rw [h1, List.length_take, List.length_drop, hcl, hsum, hoff' i f hf]
        have h2 := List.take_append_drop i (fs.toList.map fun f => P.cellsOf f.type)
        have h3 : (fs.toList.map fun f => P.cellsOf f.type).sum = ((fs.toList.map fun f => P.cellsOf f.type).take i).sum + ((fs.toList.map fun f => P.cellsOf f.type).drop i).sum := by
          rw [← List.sum_append, h2]
        have h4 : P.cellsOf f.type ≤ ((fs.toList.map fun f => P.cellsOf f.type).drop i).sum := by
          rw [List.drop_eq_getElem_cons (by simpa using lt_of_get hs)]
          have : (fs.toList.map fun f => P.cellsOf f.type)[i]'(by simpa using lt_of_get hs) = P.cellsOf f.type := by
            have := List.getElem?_eq_getElem (by simpa using lt_of_get hs : i < (fs.toList.map fun f => P.cellsOf f.type).length)
            rw [hs] at this
            exact (Option.some.inj this).symm
          rw [this, List.sum_cons]
          omega
        omega
      have := avCs_part (fs.toList.map fun f => P.cellsOf f.type) (xs.map (·.1)) (by simp [hxl]) hlp i (P.cellsOf f.type) x.1 (by rw [List.getElem?_map]; simp [hf]) (by rw [List.getElem?_map, hx]; rfl)
      rw [← hoff' i f hf] at this
      rw [this]
      exact p2
    · rename_i k e hu
      obtain ⟨xs, m, hm, rfl, hcl, hxl, hfd⟩ := DataW.trod_array hu h
      cases hm
      obtain ⟨hTe, hsum⟩ := K.array hT hu
      have hpart : ∀ (i : Nat) x, i < k → xs[i]? = some x → CellsAv w (avC x.1) ((cs.drop (i * P.cellsOf e)).take (P.cellsOf e)) ∧ Typed P e (avC x.1) := fun i x hi hx =>
        ih e _ x hTe ((hfd i hi).trans hx)
      have hpre : ∀ i, i ≤ k → ((List.replicate k (P.cellsOf e)).take i).sum = i * P.cellsOf e := fun i hi => by
        rw [List.take_replicate, Nat.min_eq_left hi]
        simp
      have hget : ∀ (i : Nat) s (d : DataW H), (List.replicate k (P.cellsOf e))[i]? = some s → (xs.map (·.1))[i]? = some d → ∃ x, i < k ∧ xs[i]? = some x ∧ s = P.cellsOf e ∧ d = x.1 := by
        intro i s d hs hd
        rw [List.getElem?_map] at hd
        simp only [Option.map_eq_some_iff] at hd
        obtain ⟨x, hx, rfl⟩ := hd
        have hi : i < k := by have := lt_of_get hx; omega
        rw [List.getElem?_replicate, if_pos hi] at hs
        exact ⟨x, hi, hx, (Option.some.inj hs).symm, rfl⟩
      have hA : CellsAv w (avCs (xs.map (·.1))) cs := by
        refine concat_av (List.replicate k (P.cellsOf e)) (xs.map (·.1)) cs (by simp [hxl]) (by rw [hcl, hsum]; simp) (fun i s d hs hd => ?_)
        obtain ⟨x, hi, hx, rfl, rfl⟩ := hget i s d hs hd
        rw [hpre i (by omega)]
        exact (hpart i x hi hx).1
      simp only [avC]
      refine ⟨hA, .array t e k _ hu (by rw [hA.len, hcl]) (fun i hi => ?_)⟩
      obtain ⟨x, hx⟩ : ∃ x, xs[i]? = some x := ⟨_, List.getElem?_eq_getElem (by omega)⟩
      obtain ⟨p1, p2⟩ := hpart i x hi hx
      have hlp : ∀ (i : Nat) s (d : DataW H), (List.replicate k (P.cellsOf e))[i]? = some s → (xs.map (·.1))[i]? = some d → (avC d).length = s := fun i s d hs hd => by
        obtain ⟨x, hi, hx, rfl, rfl⟩ := hget i s d hs hd
        have h1 := (hpart i x hi hx).1.len
        rw [h1, List.length_take, List.length_drop, hcl, hsum]
        have : (i + 1) * P.cellsOf e ≤ k * P.cellsOf e := Nat.mul_le_mul_right _ hi
        rw [Nat.add_mul] at this
        omega
      have := avCs_part (List.replicate k (P.cellsOf e)) (xs.map (·.1)) (by simp [hxl]) hlp i (P.cellsOf e) x.1 (by rw [List.getElem?_replicate, if_pos hi]) (by rw [List.getElem?_map, hx]; rfl)
      rw [hpre i (by omega)] at this
      rw [this]
      exact p2
    · cases hp
end
end Go.Av

/-
  A law: what the evaluator finds is what the row says.
-/
namespace Go.Av
open Go.RowKit Go.ChangeShapes Go.WideShapes
variable {H : Type} {enc : TypeId × Value → H}

theorem returns_both {a : Assume} {C : Checked} {os : Os} {f : FuncId} {fn : Func} {s : ChangeSpec} {conds : List PathCond} {apart fresh handsOn again : Bool} {X : World → Array Value → Prop}
    (hX : ∀ (w w' : World) (args : Array Value), w.heap = w'.heap → X w args → X w' args)
    (own : ownKnob C.prog.godebug = none) (started : os.Started) (noInit : C.prog.inits.idxOf? f = none) (hfn : C.prog.funcs[f]? = some fn)
    (witness : ∃ (w : World) (tape : Tape) (i : Input), w.os = os ∧ (w.forCall tape i).Shaped C.prog ∧ i.vars = [] ∧ Input.okWide C.prog (w.forCall tape i) .any w.heap.size f i ∧
      ((s.pre enc C.prog fn conds apart (w.forCall tape i).memory i.args ∧ X (w.forCall tape i).memory i.args) ∧ sizedMet enc C.prog fn (OpenSpec.ofChange s) apart (w.forCall tape i).memory i.args) ∧ a.holds C.prog (lone (Frame.enter C.prog f i.args .normal) [] (w.forCall tape i)))
    (contract : ∀ (W : World) (base : Nat) (args : Array Value) (ds gs : List (DataW H)) (before : List MemPlace),
      (∀ (j : Nat) t v, fn.params[j]? = some t → args[j]? = some v → Value.okWide C.prog W .any base t v) →
      DataW.Whole enc C.prog fn.params.toList s.vars apart W args.toList ds gs before →
      X W args → W.ShapedOpen C.prog →
      Calls C.prog f args W fun e W' => ∃ v, e = .returned v ∧ s.post enc C.prog fn apart fresh handsOn again W args v W') :
    ReturnsInHanded a C os f .any (fun w args => (s.pre enc C.prog fn conds apart w args ∧ X w args) ∧ sizedMet enc C.prog fn (OpenSpec.ofChange s) apart w args) (s.post enc C.prog fn apart fresh handsOn again) := by
  refine returnsInHanded_of_calls own started noInit witness ?_
  intro w tape i _ hsh _ hok hpre hholds
  obtain ⟨_, _, _, fn', hfn', _, _, _, _, hval⟩ := hok
  have e : fn' = fn := Option.some.inj (hfn'.symm.trans hfn)
  subst e
  obtain ⟨⟨⟨ds, gs, before, hw, hc⟩, hx⟩, hz⟩ := hpre
  have hw' := DataW.Whole.of_heap (w' := w.forCall tape i) (by rfl) hw
  refine (contract (w.forCall tape i) w.heap.size i.args ds gs before hval hw' (hX _ _ _ (by rfl) hx) hsh).mono fun e W' ⟨v, he, hp⟩ => ?_
  subst he
  exact ChangeSpec.post_blind hp

/-- A value of a type, whole. -/
def TypedV (P : Program) (t : TypeId) (a : AV) : Prop := ∃ cs, Typed P t cs ∧ a.cells = some cs ∧ (isAggT P t = some true → a = .agg cs) ∧ (isAggT P t = some false → cs = [a])

/-- Values of a function's parameters' types. -/
structure TypedAll (P : Program) (ts : List TypeId) (as : List AV) : Prop where
  len : as.length = ts.length
  get : ∀ (j : Nat) t a, ts[j]? = some t → as[j]? = some a → TypedV P t a

variable {P : Program} {w : World} {T : TypeId → Prop}

theorem arg_av (K : Kids P T) (hsz : ∀ {t e : TypeId}, T t → P.underlying t = some (.slice e) → 0 < P.cellsOf e) (hpl : ∀ {t : TypeId}, T t → plainT P t = true) {t : TypeId} {v : Value} {d : DataW H} {ps : List MemPlace} {base : Nat} (hT : T t)
    (h : DataW.Trod enc P w 0 (fun _ => true) true t v d ps) (hok : Value.okWide P w .any base t v) : TypedV P t (avV d) ∧ (avV d).top = 0 ∧ Rel0 noBlk w (avV d) v := by
  obtain ⟨n, hn⟩ := h
  obtain ⟨hA, hTy⟩ := trod_av K hsz hpl n t _ (d, ps) hT hn
  have hcells := avV_cells d hA.cell
  have htop : (avV d).top = 0 := by rw [← top_cells hcells]; exact hA.top
  have hp := hpl hT
  unfold plainT at hp
  have single : ∀ u : Value, v.cells.toList = [u] → u = v → isAggT P t = some false → (∀ ps, d ≠ .agg ps) → TypedV P t (avV d) ∧ (avV d).top = 0 ∧ Rel0 noBlk w (avV d) v := by
    intro u hu huv hag hd
    have h1 := avC_one d hd
    refine ⟨⟨_, hTy, hcells, (fun h => by rw [hag] at h; cases h), fun _ => h1⟩, htop, ?_⟩
    rw [h1, hu] at hA
    rw [← huv]
    exact hA.rel 0 _ _ rfl rfl
  split at hp
  · rename_i hu
    have hag : isAggT P t = some false := by simp [isAggT, hu]
    obtain ⟨b, hb, hx⟩ := DataW.trod_bool hu hn
    simp only [Prod.mk.injEq] at hx
    obtain ⟨b', rfl⟩ := okWide_bool hu hok
    refine single (.bool b) hb ?_ hag (fun ps e => by rw [hx.1] at e; cases e)
    simpa [Value.cells] using hb.symm
  · rename_i k hu
    have hag : isAggT P t = some false := by simp [isAggT, hu]
    obtain ⟨m, hb, hx, _⟩ := DataW.trod_int hu hn
    simp only [Prod.mk.injEq] at hx
    obtain ⟨m', rfl⟩ := okWide_int hu hok
    refine single (.int k m) hb ?_ hag (fun ps e => by rw [hx.1] at e; cases e)
    simpa [Value.cells] using hb.symm
  · rename_i hu
    have hag : isAggT P t = some false := by simp [isAggT, hu]
    obtain ⟨s, hb, hx, _⟩ := DataW.trod_string hu hn
    simp only [Prod.mk.injEq] at hx
    obtain ⟨s', rfl⟩ := okWide_string hu hok
    refine single (.string s) hb ?_ hag (fun ps e => by rw [hx.1] at e; cases e)
    simpa [Value.cells] using hb.symm
  · rename_i e hu
    have hag : isAggT P t = some false := by simp [isAggT, hu]
    obtain ⟨a, len, cap, rfl⟩ := okWide_slice hu hok
    refine single (.slice a len cap) rfl rfl hag (fun ps e => ?_)
    rcases DataW.trod_slice hu hn with ⟨_, hx⟩ | ⟨_, _, _, _, _, _, _, _, hx, _⟩
    · simp only [Prod.mk.injEq] at hx; rw [hx.1] at e; cases e
    · simp only [Prod.mk.injEq] at hx; rw [hx.1] at e; cases e
  · rename_i fs hu
    have hag : isAggT P t = some true := by simp [isAggT, hu]
    simp only [Value.okWide, hu] at hok
    obtain ⟨cs, rfl, _⟩ := hok
    obtain ⟨xs, m, _, hx, _⟩ := DataW.trod_struct hu hn
    simp only [Prod.mk.injEq] at hx
    have hd : avV d = .agg (avC d) := by rw [hx.1]; simp [avV, avC]
    refine ⟨⟨_, hTy, hcells, fun _ => hd, (fun h => by rw [hag] at h; cases h)⟩, htop, ?_⟩
    rw [hd]
    exact .agg _ _ (by simpa [Value.cells] using hA.len) fun i c v h1 h2 => hA.rel i c v h1 (by simpa [Value.cells] using h2)
  · rename_i k e hu
    have hag : isAggT P t = some true := by simp [isAggT, hu]
    simp only [Value.okWide, hu] at hok
    obtain ⟨cs, rfl, _⟩ := hok
    obtain ⟨xs, m, _, hx, _⟩ := DataW.trod_array hu hn
    simp only [Prod.mk.injEq] at hx
    have hd : avV d = .agg (avC d) := by rw [hx.1]; simp [avV, avC]
    refine ⟨⟨_, hTy, hcells, fun _ => hd, (fun h => by rw [hag] at h; cases h)⟩, htop, ?_⟩
    rw [hd]
    exact .agg _ _ (by simpa [Value.cells] using hA.len) fun i c v h1 h2 => hA.rel i c v h1 (by simpa [Value.cells] using h2)
  · cases hp

theorem trodAll_stays {w' : World} {sp' : Nat → Bool} (K : Kids P T) (hsz : ∀ {t e : TypeId}, T t → P.underlying t = some (.slice e) → 0 < P.cellsOf e) : ∀ {ts : List TypeId} {vs : List Value} {ds : List (DataW H)} {ps : List MemPlace}, (∀ t ∈ ts, T t) →
    DataW.TrodAll enc P w 0 (fun _ => true) true ts vs ds ps → (∀ p ∈ ps, w.sameAt w' p) → (∀ p ∈ ps, sp' p.block = true) → DataW.TrodAll enc P w' 0 sp' true ts vs ds ps
  | [], [], [], _, _, h, _, _ => h
  | _ :: _, _ :: _, _ :: _, _, hT, ⟨p, q, ⟨n, h1⟩, h2, e⟩, hsm, hs =>
    ⟨p, q, ⟨n, DataW.trod_stays K hsz (fun h => by cases h) (hT _ (List.mem_cons.2 (Or.inl rfl))) h1 (fun x hx => hsm x (by rw [e]; exact List.mem_append_left _ hx)) (fun x hx => hs x (by rw [e]; exact List.mem_append_left _ hx))⟩,
      trodAll_stays K hsz (fun t ht => hT t (List.mem_cons.2 (Or.inr ht))) h2 (fun x hx => hsm x (by rw [e]; exact List.mem_append_right _ hx)) (fun x hx => hs x (by rw [e]; exact List.mem_append_right _ hx)), e⟩

theorem trodAll_lt : ∀ {ts : List TypeId} {vs : List Value} {ds : List (DataW H)} {ps : List MemPlace}, DataW.TrodAll enc P w 0 (fun _ => true) true ts vs ds ps → ∀ p ∈ ps, p.block < w.heap.size
  | [], [], [], _, h, p, hp => by cases h; cases hp
  | _ :: _, _ :: _, _ :: _, _, ⟨p, q, ⟨n, h1⟩, h2, e⟩, x, hx => by
    rw [e] at hx
    rcases List.mem_append.1 hx with hx | hx
    · exact DataW.trod_lt n _ _ _ h1 x hx
    · exact trodAll_lt h2 x hx

theorem trodAll_get : ∀ {ts : List TypeId} {vs : List Value} {ds : List (DataW H)} {ps : List MemPlace}, DataW.TrodAll enc P w 0 (fun _ => true) true ts vs ds ps → vs.length = ts.length ∧ ds.length = ts.length ∧ ∀ (j : Nat) t v d, ts[j]? = some t → vs[j]? = some v → ds[j]? = some d → ∃ p, DataW.Trod enc P w 0 (fun _ => true) true t v d p
  | [], [], [], _, h => ⟨rfl, rfl, fun j t v d h => by simp at h⟩
  | _ :: ts, _ :: vs, _ :: ds, _, ⟨p, q, h1, h2, e⟩ => by
    obtain ⟨k1, k2, k3⟩ := trodAll_get h2
    refine ⟨by simp [k1], by simp [k2], fun j t v d ht hv hd => ?_⟩
    cases j with
    | zero => simp at ht hv hd; subst ht; subst hv; subst hd; exact ⟨p, h1⟩
    | succ j => exact k3 j t v d (by simpa using ht) (by simpa using hv) (by simpa using hd)

/-- THE LAW. -/
theorem law_lifted {C : Checked} {os : Os} {f : FuncId} {fn : Func} {s : ChangeSpec} {conds : List PathCond} {laid : List (String × DataW Unit)} {fresh : Bool}
    (own : ownKnob C.prog.godebug = none) (started : os.Started) (noInit : C.prog.inits.idxOf? f = none) (hfn : C.prog.funcs[f]? = some fn)
    (witness : ∃ (w : World) (tape : Tape) (i : Input), w.os = os ∧ (w.forCall tape i).Shaped C.prog ∧ i.vars = [] ∧ Input.okWide C.prog (w.forCall tape i) .any w.heap.size f i ∧
      ((s.pre enc C.prog fn conds false (w.forCall tape i).memory i.args ∧ laidMetH C.prog laid (w.forCall tape i).memory) ∧ sizedMet enc C.prog fn (OpenSpec.ofChange s) false (w.forCall tape i).memory i.args) ∧ ({} : Assume).holds C.prog (lone (Frame.enter C.prog f i.args .normal) [] (w.forCall tape i)))
    (hvars : s.vars = []) (hspec : ∀ (ds : List (DataW H)), ds.length = fn.params.size → s.fn H ds = { results := [.lit (.bool true)], args := ds })
    {tb : TypeId} (hres : fn.resultTypes = #[tb]) (hub : C.prog.underlying tb = some .bool) (K : Kids C.prog T) (hsz : ∀ {t e : TypeId}, T t → C.prog.underlying t = some (.slice e) → 0 < C.prog.cellsOf e) (hpl : ∀ {t : TypeId}, T t → plainT C.prog t = true) (hT : ∀ t ∈ fn.params.toList, T t)
    (hrun : ∀ W : World, W.ShapedOpen C.prog → laidMetH C.prog laid W → ∃ (G : Nat → Option (List AV)) (cf : CallF), (∀ g cs, G g = some cs → Rel0 noBlk W (.iptr cs 0) (.pointer (some ⟨g, 0, none⟩))) ∧ CallOk G C.prog cf ∧
      ∀ as : List AV, TypedAll C.prog fn.params.toList as → cf (fun _ => true) f as [] = some (.bool true, [])) :
    ReturnsInHanded {} C os f .any (fun w args => (s.pre enc C.prog fn conds false w args ∧ laidMetH C.prog laid w) ∧ sizedMet enc C.prog fn (OpenSpec.ofChange s) false w args) (s.post enc C.prog fn false fresh false false) := by
  refine returns_both (C := C) (X := fun w _ => laidMetH C.prog laid w) (fun _ _ _ hh h => h.of_heap hh) own started noInit hfn witness ?_
  intro W base args ds gs before hval hW hL hsh
  have hW' := hW
  obtain ⟨p, q, hA, hV, rfl, _, _⟩ := hW
  rw [hvars] at hV
  obtain ⟨rfl, rfl⟩ := trodVars_none hV
  obtain ⟨l1, l2, hget⟩ := trodAll_get hA
  obtain ⟨G, cf, hG, hcf, hrun⟩ := hrun W hsh hL
  have hs0 : Sim G noBlk [] W := ⟨fun b b' β h => (by cases h), fun b β h => (by cases h), fun b x hx => (by simp at hx), fun q x hq => (by simp at hq), hG⟩
  have hargs : ∀ (j : Nat) a v, (ds.map avV)[j]? = some a → args[j]? = some v → ∃ t, fn.params.toList[j]? = some t ∧ TypedV C.prog t a ∧ a.top = 0 ∧ Rel0 noBlk W a v := by
    intro j a v ha hv
    rw [List.getElem?_map] at ha
    simp only [Option.map_eq_some_iff] at ha
    obtain ⟨d, hd, rfl⟩ := ha
    have hj := lt_of_get hd
    have ht : fn.params.toList[j]? = some (fn.params.toList[j]'(by omega)) := List.getElem?_eq_getElem (by omega)
    obtain ⟨ps, htr⟩ := hget j _ v d ht (by simpa using hv) hd
    have hTt : T (fn.params.toList[j]'(by omega)) := hT _ (List.getElem_mem _)
    exact ⟨_, ht, arg_av K hsz hpl hTt htr (hval j _ v (by simp) hv)⟩
  have htyped : TypedAll C.prog fn.params.toList (ds.map avV) := by
    refine ⟨by simpa using l2, fun j t a ht ha => ?_⟩
    have hj := lt_of_get ht
    obtain ⟨v, hv⟩ : ∃ v, args[j]? = some v := ⟨_, Array.getElem?_eq_getElem (by simp at l1; simp at hj; omega)⟩
    obtain ⟨t', ht', h1, _⟩ := hargs j a v ha hv
    rw [ht] at ht'; cases ht'
    exact h1
  obtain ⟨_, hc⟩ := hcf (fun _ => true) f (ds.map avV) [] _ [] (hrun _ htyped) noBlk W args hs0 (by simp at l1 l2 ⊢; omega) (fun j a v ha hv => by
      obtain ⟨_, _, _, ht, hr⟩ := hargs j a v ha hv
      exact hr.mono 0 (by omega) (fun β _ _ => ⟨imm_none β, rfl⟩) (fun a v hi h0 _ => by have := AV.top_blk hi; omega)) (by
      refine topAll_le fun j a ha => ?_
      have hj := lt_of_get ha
      obtain ⟨v, hv⟩ : ∃ v, args[j]? = some v := ⟨_, Array.getElem?_eq_getElem (by simp at l1 l2 hj; omega)⟩
      obtain ⟨_, _, _, ht, _⟩ := hargs j a v ha hv
      omega)
  refine hc.mono ?_
  rintro e W' ⟨v, ρ', esc', rfl, _, _, hst, hrv, _⟩
  have hB : Below W.heap.size W W' := ⟨hst.os, hst.tape, hst.output, hst.size, fun k hk => hst.keep k (imm_none k) hk⟩
  have hv : v = .bool true := by
    have := hrv.bool_inv
    exact this
  subst hv
  have hsp : s.fn H (ds ++ []) = { results := [.lit (.bool true)], args := ds } := by rw [List.append_nil]; exact hspec ds (by simpa using l2)
  refine ⟨_, rfl, ds, [], _, [], p, [], hW', ?_, ?_, ?_, hB.frame _, fun h => by cases h⟩
  · rw [hsp, hres]
    exact trodAll_mk1 (shut_bool hub true)
  · rw [hsp]
    exact trodAll_stays K hsz hT hA (fun x hx => hB.same (trodAll_lt hA x hx)) (fun x hx => by simpa using trodAll_lt hA x hx)
  · rw [hsp, hvars]
    rfl
end Go.Av

/-
  Types that are values, as a closed list; package-level variables that are laid.
-/
namespace Go.Av
open Go.RowKit Go.ChangeShapes Go.WideShapes
variable {H : Type} {enc : TypeId × Value → H}

/-- Where each field begins. -/
def offsOk (P : Program) : Nat → List Field → Bool
  | _, [] => true
  | o, f :: r => f.offset == o && offsOk P (o + P.cellsOf f.type) r

def kinsOk (P : Program) (L : List TypeId) (t : TypeId) : Bool := match P.underlying t with
  | some .bool => true
  | some (.int _) => true
  | some .string => true
  | some (.slice e) => L.contains e && decide (0 < P.cellsOf e)
  | some (.struct fs) => fs.toList.all (fun f => L.contains f.type) && offsOk P 0 fs.toList && P.cellsOf t == (fs.toList.map fun f => P.cellsOf f.type).sum
  | some (.array n e) => L.contains e && P.cellsOf t == n * P.cellsOf e
  | _ => false

def closedT (P : Program) (L : List TypeId) : Bool := L.all (kinsOk P L)

/-- The types that some types are made of. -/
def kinsOf (P : Program) (t : TypeId) : List TypeId := match P.underlying t with
  | some (.slice e) => [e]
  | some (.struct fs) => fs.toList.map (·.type)
  | some (.array _ e) => [e]
  | _ => []
def closeT (P : Program) : Nat → List TypeId → List TypeId
  | 0, L => L
  | n + 1, L => closeT P n ((L.flatMap (kinsOf P)).foldl (fun l t => if l.contains t then l else t :: l) L)

theorem offsOk_get {P : Program} : ∀ (l : List Field) (o : Nat), offsOk P o l = true → ∀ (j : Nat) f, l[j]? = some f → f.offset = o + ((l.take j).map fun f => P.cellsOf f.type).sum
  | [], _, _, j, f, h => by simp at h
  | f0 :: r, o, h, j, f, hj => by
    simp [offsOk] at h
    cases j with
    | zero => simp at hj; subst hj; simp [h.1]
    | succ j =>
      have := offsOk_get r _ h.2 j f (by simpa using hj)
      simp [this]; omega

theorem closed_kids {P : Program} {L : List TypeId} (h : closedT P L = true) : Kids P (· ∈ L) := by
  have hk : ∀ t, t ∈ L → kinsOk P L t = true := fun t ht => List.all_eq_true.1 h t ht
  refine ⟨fun {t e} ht hu => ?_, fun {t e} ht hu => ?_, fun {t e n} ht hu => ?_, fun {t fs} ht hu => ?_, fun {t k e} ht hu => ?_⟩
  · have := hk t ht; unfold kinsOk at this; rw [hu] at this; cases this
  · have := hk t ht; unfold kinsOk at this; rw [hu] at this; simp at this; exact this.1
  · have := hk t ht; unfold kinsOk at this; rw [hu] at this; simp at this; exact this
  · have := hk t ht; unfold kinsOk at this; rw [hu] at this
    simp only [Bool.and_eq_true, List.all_eq_true, beq_iff_eq] at this
    obtain ⟨⟨h1, h2⟩, h3⟩ := this
    exact ⟨fun f hf => by simpa using h1 f hf, h3, fun j f hf => by simpa using offsOk_get _ 0 h2 j f hf⟩
  · have := hk t ht; unfold kinsOk at this; rw [hu] at this; cases this

theorem closed_size {P : Program} {L : List TypeId} (h : closedT P L = true) {t e : TypeId} (ht : t ∈ L) (hu : P.underlying t = some (.slice e)) : 0 < P.cellsOf e := by
  have := List.all_eq_true.1 h t ht; unfold kinsOk at this; rw [hu] at this; simp at this; exact this.2

theorem closed_plain {P : Program} {L : List TypeId} (h : closedT P L = true) {t : TypeId} (ht : t ∈ L) : plainT P t = true := by
  have := List.all_eq_true.1 h t ht
  unfold kinsOk at this
  unfold plainT
  split at this <;> simp_all

/-- A laid variable, as the evaluator has it. -/
theorem laid_rel {P : Program} {w : World} {L : List TypeId} (hL : closedT P L = true) : ∀ {l : List (String × DataW Unit)} {ps : List MemPlace}, DataW.LaidVars P w l ps → ∀ n d, (n, d) ∈ l → ∀ g t, P.globalNamed n = some g → (P.globals[g]?).map (·.type) = some t → t ∈ L →
    Rel0 noBlk w (.iptr (avC d) 0) (.pointer (some ⟨g, 0, none⟩))
  | [], _, _, n, d, hm => by cases hm
  | (n0, d0) :: r, ps, h, n, d, hm => by
    intro g t hg ht htL
    obtain ⟨g0, t0, cs, fuel, p, q, h1, h2, h3, h4, h5, _⟩ := h
    rcases List.mem_cons.1 hm with e | hm
    · cases e
      rw [hg] at h1; cases h1
      rw [ht] at h2; cases h2
      obtain ⟨hA, _⟩ := trod_av (closed_kids hL) (fun h1 h2 => closed_size hL h1 h2) (fun h1 => closed_plain hL h1) fuel t cs.toList _ htL h4
      refine .iptr _ 0 g 0 (fun j => (cs[j]?).getD undef) (fun _ => imm_none g) (fun j hj => ?_) hA.top (fun j c hc => ?_)
      · have := World.var?_cell hg h3 j
        rw [Nat.zero_add, this]
        have hlt : j < cs.size := by have := hA.len; simp at this; omega
        simp [hlt]
      · have hlt : j < cs.size := by have := hA.len; have := lt_of_get hc; simp at *; omega
        have := hA.rel j c cs[j] hc (by simp [hlt])
        simpa [hlt] using this
    · exact laid_rel hL h5 n d hm g t hg ht htL

theorem cell_rel {w : World} {g : Nat} {k : IntKind} {m : Int} (h : w.cell? ⟨g, 0, none⟩ = some (.int k m)) : Rel0 noBlk w (.iptr [.int k m] 0) (.pointer (some ⟨g, 0, none⟩)) :=
  .iptr [.int k m] 0 g 0 (fun _ => .int k m) (fun _ => imm_none g) (fun j hj => by
    have : j = 0 := by simpa using hj
    subst this; exact h) rfl (fun j c hc => by
    have := lt_of_get hc
    have : j = 0 := by simpa using this
    subst this; simp at hc; subst hc; exact .int k m)
end Go.Av

/-
  What a value of a type is.
-/
namespace Go.Av
variable {P : Program}

theorem typed_int {t : TypeId} {k : IntKind} {a : AV} (hu : P.underlying t = some (.int k)) (h : TypedV P t a) : ∃ n, a = .int k n ∧ (Lit.int k n).wf = true := by
  obtain ⟨cs, h1, h2, _, h4⟩ := h
  have := h4 (by simp [isAggT, hu])
  subst this
  cases h1 with
  | bool _ b h => rw [hu] at h; cases h
  | int _ k n h hw => rw [hu] at h; cases h; exact ⟨n, rfl, hw⟩
  | str _ s h hl => rw [hu] at h; cases h
  | nil _ e h => rw [hu] at h; cases h
  | slice _ e es f h hl hf he => rw [hu] at h; cases h
  | struct _ fs cs h hl hf => rw [hu] at h; cases h
  | array _ e n cs h hl hf => rw [hu] at h; cases h
theorem typed_bool {t : TypeId} {a : AV} (hu : P.underlying t = some .bool) (h : TypedV P t a) : ∃ b, a = .bool b := by
  obtain ⟨cs, h1, h2, _, h4⟩ := h
  have := h4 (by simp [isAggT, hu])
  subst this
  cases h1 with
  | bool _ b h => exact ⟨b, rfl⟩
  | int _ k n h hw => rw [hu] at h; cases h
  | str _ s h hl => rw [hu] at h; cases h
  | nil _ e h => rw [hu] at h; cases h
  | slice _ e es f h hl hf he => rw [hu] at h; cases h
  | struct _ fs cs h hl hf => rw [hu] at h; cases h
  | array _ e n cs h hl hf => rw [hu] at h; cases h
theorem typed_str {t : TypeId} {a : AV} (hu : P.underlying t = some .string) (h : TypedV P t a) : ∃ s, a = .str s ∧ s.length ≤ maxLen := by
  obtain ⟨cs, h1, h2, _, h4⟩ := h
  have := h4 (by simp [isAggT, hu])
  subst this
  cases h1 with
  | bool _ b h => rw [hu] at h; cases h
  | int _ k n h hw => rw [hu] at h; cases h
  | str _ s h hl => exact ⟨s, rfl, hl⟩
  | nil _ e h => rw [hu] at h; cases h
  | slice _ e es f h hl hf he => rw [hu] at h; cases h
  | struct _ fs cs h hl hf => rw [hu] at h; cases h
  | array _ e n cs h hl hf => rw [hu] at h; cases h
theorem typed_two {t u : TypeId} {as : List AV} (h : TypedAll P [t, u] as) : ∃ a b, as = [a, b] ∧ TypedV P t a ∧ TypedV P u b := by
  obtain ⟨h1, h2⟩ := h
  match as, h1 with
  | [a, b], _ => exact ⟨a, b, rfl, h2 0 t a rfl rfl, h2 1 u b rfl rfl⟩
theorem typed_four {t u v x : TypeId} {as : List AV} (h : TypedAll P [t, u, v, x] as) : ∃ a b c d, as = [a, b, c, d] ∧ TypedV P t a ∧ TypedV P u b ∧ TypedV P v c ∧ TypedV P x d := by
  obtain ⟨h1, h2⟩ := h
  match as, h1 with
  | [a, b, c, d], _ => exact ⟨a, b, c, d, rfl, h2 0 t a rfl rfl, h2 1 u b rfl rfl, h2 2 v c rfl rfl, h2 3 x d rfl rfl⟩
end Go.Av
