/-
  Operations whose order is open: what waits for what; the tables of a run.
-/
import Derived.Test.YtnnclgadfbaldaaGreatDoorAvC
import Derived.Orders
import Derived.LoopN
import Derived.Scope
import GoSem.Claim
import Derived.Lib.Index
import Derived.Lib.Bytealg
namespace Go.Av
section
variable {G : Nat → Option (List AV)} {P : Program}

/-- Is a set of operations closed: with each one what it waits for? -/
def ClosedOps (ops : List Oper) (Pd : Nat → Prop) : Prop := ∀ i o, ops[i]? = some o → Pd i → ∀ p ∈ predsOf o, Pd p

theorem eraseDups_sub {x : Nat} : ∀ {l : List Nat}, x ∈ dedup l → x ∈ l := by
  intro l
  induction l with
  | nil => intro h; cases h
  | cons y r ih =>
    intro h
    simp only [dedup, addNew] at h
    split at h
    · exact List.mem_cons_of_mem _ (ih h)
    · rcases List.mem_cons.1 h with rfl | h
      · exact List.mem_cons_self ..
      · exact List.mem_cons_of_mem _ (ih h)

def GoodAn (ops : List Oper) (acc : List (List Nat)) : Prop :=
  ∀ i j, j ∈ acc.getD i [] → ∃ o, ops[i]? = some o ∧ ∀ Pd, ClosedOps ops Pd → (∀ p ∈ predsOf o, Pd p) → Pd j

theorem ancsGo_good {ops : List Oper} : ∀ (rest : List Oper) (acc : List (List Nat)), (∀ j, rest[j]? = ops[acc.length + j]?) → GoodAn ops acc → GoodAn ops (ancsGo rest acc) := by
  intro rest
  induction rest with
  | nil => intro acc _ h; exact h
  | cons o r ih =>
    intro acc hr h
    simp only [ancsGo]
    have ho : ops[acc.length]? = some o := by have := hr 0; simpa using this.symm
    refine ih _ (fun j => by have := hr (j + 1); simp only [List.length_append, List.length_cons, List.length_nil]; simpa [Nat.add_assoc, Nat.add_comm 1 j] using this) ?_
    intro i j hj
    rcases Nat.lt_trichotomy i acc.length with hi | hi | hi
    · have : (acc ++ [dedup (predsOf o ++ (predsOf o).flatMap fun j => acc.getD j [])]).getD i [] = acc.getD i [] := by
        simp only [List.getD_eq_getElem?_getD, List.getElem?_append_left hi]
      rw [this] at hj
      exact h i j hj
    · subst hi
      have : (acc ++ [dedup (predsOf o ++ (predsOf o).flatMap fun j => acc.getD j [])]).getD acc.length [] = dedup (predsOf o ++ (predsOf o).flatMap fun j => acc.getD j []) := by
        simp [List.getD_eq_getElem?_getD]
      rw [this] at hj
      have hj := eraseDups_sub hj
      refine ⟨o, ho, fun Pd hcl hp => ?_⟩
      rcases List.mem_append.1 hj with hj | hj
      · exact hp j hj
      · obtain ⟨p, hpm, hjp⟩ := List.mem_flatMap.1 hj
        obtain ⟨op, hop, hall⟩ := h p j hjp
        exact hall Pd hcl (hcl p op hop (hp p hpm))
    · have : (acc ++ [dedup (predsOf o ++ (predsOf o).flatMap fun j => acc.getD j [])]).getD i [] = [] := by
        rw [List.getD_eq_getElem?_getD, List.getElem?_eq_none (by simp; omega)]; rfl
      rw [this] at hj
      simp at hj

theorem ancs_good (ops : List Oper) : GoodAn ops (ancsOf ops) := by
  refine ancsGo_good ops [] (fun j => by simp) ?_
  intro i j h
  simp at h

theorem orderly_spec {ops : List Oper} : ∀ {n i : Nat} {o : Oper}, orderly ops n = true → i < n → ops[i]? = some o → ∀ p ∈ predsOf o, p < i := by
  intro n
  induction n with
  | zero => intro i o _ h; omega
  | succ n ih =>
    intro i o h hi ho p hp
    simp only [orderly, Bool.and_eq_true] at h
    rcases Nat.lt_or_ge i n with h2 | h2
    · exact ih h.1 h2 ho p hp
    · have : i = n := by omega
      subst this
      have h1 := h.2
      rw [ho] at h1
      simp only [Option.map_some, Option.getD_some, List.all_eq_true, decide_eq_true_eq] at h1
      exact h1 p hp

theorem seenAt_spec {weak : Bool} {an : List (List Nat)} {l : List MInstr} {i : Nat} (h : seenAt weak an l i = true) {j t : Nat} {mi mj : MInstr} (hi : l[i]? = some mi) (hj : l[j]? = some mj) (ht : t ∈ mi.reads) (hd : mj.dst = some t) :
    (j ∈ an.getD i [] ∧ j < i) ∨ (weak = true ∧ (j = i ∨ (i ∈ an.getD j [] ∧ i < j))) := by
  simp only [seenAt] at h
  rw [hi] at h
  simp only [Option.map_some, Option.getD_some, List.all_eq_true, List.mem_range] at h
  have h2 := h t ht j (List.getElem?_eq_some_iff.1 hj).1
  rw [hj] at h2
  simp only [Option.bind_some, hd, decide_true, Bool.not_true, Bool.false_or, Bool.or_eq_true, Bool.and_eq_true, List.contains_eq_mem, decide_eq_true_eq] at h2
  exact h2

theorem seen_spec {an : List (List Nat)} {l : List MInstr} (h : seen an l = true) {i : Nat} {mi : MInstr} (hi : l[i]? = some mi) : seenAt true an l i = true := by
  simp only [seen, List.all_eq_true, List.mem_range] at h
  exact h i (List.getElem?_eq_some_iff.1 hi).1

theorem distinct_spec : ∀ {l : List MInstr}, distinct (l.filterMap (·.dst)) = true → ∀ {i j t : Nat} {mi mj : MInstr}, l[i]? = some mi → l[j]? = some mj → mi.dst = some t → mj.dst = some t → i = j := by
  intro l
  induction l with
  | nil => intro _ i j t mi mj hi; simp at hi
  | cons x r ih =>
    intro h i j t mi mj hi hj h1 h2
    have hr : distinct (r.filterMap (·.dst)) = true := by
      cases hx : x.dst with
      | none => simpa [List.filterMap_cons, hx] using h
      | some d => simp [hx, distinct] at h; exact h.2
    have hno : ∀ (k : Nat) (m : MInstr), r[k]? = some m → x.dst = some t → m.dst = some t → False := by
      intro k m hk hx hm
      simp only [List.filterMap_cons, hx, distinct, Bool.and_eq_true, Bool.not_eq_true', List.contains_eq_mem, decide_eq_false_iff_not] at h
      exact h.1 (List.mem_filterMap.2 ⟨m, List.mem_of_getElem? hk, hm⟩)
    cases i with
    | zero =>
      cases j with
      | zero => rfl
      | succ j =>
        simp at hi hj
        subst hi
        exact (hno j mj hj h1 h2).elim
    | succ i =>
      cases j with
      | zero =>
        simp at hi hj
        subst hj
        exact (hno i mi hi h2 h1).elim
      | succ j =>
        simp at hi hj
        rw [ih hr hi hj h1 h2]

theorem keysOf_get {louds : List Nat} : ∀ {l : List MInstr} {k i : Nat}, (keysOf louds k l)[i]? = (l[i]?).map fun mi => ⟨mi, if louds.contains (k + i) then some (louds.filter (· ≤ k + i)) else none⟩ := by
  intro l
  induction l with
  | nil => intro k i; simp [keysOf]
  | cons x r ih =>
    intro k i
    cases i with
    | zero => simp [keysOf]
    | succ i => simp only [keysOf, List.getElem?_cons_succ, ih]; simp [Nat.add_assoc, Nat.add_comm 1 i]

theorem lookH_cons {k : List Nat} {h : List Blk} {tbl : List (List Nat × List Blk)} (hk : lookH tbl k = none) {s : List Nat} {x : List Blk} (hs : lookH tbl s = some x) : lookH ((k, h) :: tbl) s = some x := by
  simp only [lookH]
  rw [if_neg (fun e => by subst e; rw [hk] at hs; cases hs)]
  exact hs

theorem st_put {st : St} {d : Option Nat} {p : AV × List Blk} : (st.put d p).h = p.2 ∧ (st.put d p).base = st.base ∧ (st.put d p).esc = st.esc := by
  cases d <;> exact ⟨rfl, rfl, rfl⟩

theorem fget_fset' (fr : List (Nat × AV)) (d t : Nat) (v : AV) : fget (fset fr d v) t = if d = t then v else fget fr t := by
  induction fr with
  | nil => simp [fset, fget]
  | cons x r ih =>
    obtain ⟨u, y⟩ := x
    simp only [fset]
    split
    · rename_i h
      subst h
      simp only [fget]
      split <;> rfl
    · rename_i h
      simp only [fget, ih]
      split
      · rename_i h2
        subst h2
        rw [if_neg (fun h3 => h h3.symm)]
      · rfl

theorem put_fget {st : St} {d : Option Nat} {p : AV × List Blk} {t : Nat} (h : d ≠ some t) : fget (st.put d p).fr t = fget st.fr t := by
  cases d with
  | none => rfl
  | some d => simp only [St.put, fget_fset']; rw [if_neg (fun e => h (by rw [e]))]

theorem put_fget_self {st : St} {d : Nat} {p : AV × List Blk} : fget (st.put (some d) p).fr d = p.1 := by
  simp [St.put, fget_fset']

/-- Of each temporary that is looked at: what was made for it ahead of the place; or else what was there. -/
def Reads (st0 stF : St) (l : List MInstr) (i : Nat) (mi : MInstr) (fr : List (Nat × AV)) : Prop :=
  ∀ t ∈ mi.reads, (∀ (j : Nat) (mj : MInstr), l[j]? = some mj → mj.dst = some t → j < i → fget fr t = fget stF.fr t) ∧
    ((∀ (j : Nat) (mj : MInstr), l[j]? = some mj → mj.dst = some t → i ≤ j) → fget fr t = fget st0.fr t)

/-- What stands at a place of the table of runs. -/
def At (cf : CallF) (st0 stF : St) (T : List Nat → Option (List Blk)) (l : List MInstr) (i : Nat) (mi : MInstr) (s s' : List Nat) : Prop :=
  ∃ fr h h' v, T s = some h ∧ stepI G cf { stF with fr := fr, h := h } mi = some (v, h') ∧ T s' = some h' ∧ (∀ d, mi.dst = some d → v = fget stF.fr d) ∧ Reads st0 stF l i mi fr

theorem At.mono {cf : CallF} {st0 stF : St} {T T' : List Nat → Option (List Blk)} {l : List MInstr} {i : Nat} {mi : MInstr} {s s' : List Nat} (h : At (G := G) cf st0 stF T l i mi s s') (hT : ∀ k x, T k = some x → T' k = some x) : At (G := G) cf st0 stF T' l i mi s s' := by
  obtain ⟨fr, a, b, v, h1, h2, h3, h4⟩ := h
  exact ⟨fr, a, b, v, hT _ _ h1, h2, hT _ _ h3, h4⟩

theorem runExtra_sound {cf : CallF} {louds : List Nat} {l : List MInstr} {an : List (List Nat)} {st0 stF : St} (hkeep : ∀ t, (∀ (j : Nat) (mj : MInstr), l[j]? = some mj → mj.dst ≠ some t) → fget stF.fr t = fget st0.fr t) :
    ∀ (ex : List (Nat × List Nat × List Nat)) (tbl T : List (List Nat × List Blk)), (∀ e ∈ ex, seenAt false an l e.1 = true) → runExtra G cf (keysOf louds 0 l) stF ex tbl = some T →
    (∀ k x, lookH tbl k = some x → lookH T k = some x) ∧ ∀ i s s', (i, s, s') ∈ ex → ∃ mi, l[i]? = some mi ∧ At (G := G) cf st0 stF (lookH T) l i mi s s' := by
  intro ex
  induction ex with
  | nil =>
    intro tbl T _ h
    simp [runExtra] at h
    subst h
    exact ⟨fun _ _ h => h, fun i s s' h => by simp at h⟩
  | cons e r ih =>
    intro tbl T hse h
    obtain ⟨i, s, s'⟩ := e
    have hse' : ∀ e ∈ r, seenAt false an l e.1 = true := fun e he => hse e (List.mem_cons_of_mem _ he)
    have hsi : seenAt false an l i = true := hse (i, s, s') (List.mem_cons_self ..)
    simp only [runExtra, Option.bind_eq_some_iff] at h
    obtain ⟨d, hd, x, hx, p, hp, h⟩ := h
    rw [keysOf_get] at hd
    obtain ⟨mi, hmi, hd⟩ := Option.map_eq_some_iff.1 hd
    have hdi : d.i = mi := by rw [← hd]
    rw [hdi] at hp h
    have hreads : Reads st0 stF l i mi stF.fr := by
      intro t ht
      refine ⟨fun _ _ _ _ _ => rfl, fun hall => hkeep t fun j mj hj hdj => ?_⟩
      rcases seenAt_spec hsi hmi hj ht hdj with h1 | h1
      · have := hall j mj hj hdj; omega
      · cases h1.1
    split at h
    · rename_i hv
      have hv' : ∀ d, mi.dst = some d → p.1 = fget stF.fr d := by
        intro d hd
        simp only [hd, okDst] at hv
        exact AV.same_eq _ _ hv
      cases hl : lookH tbl s' with
      | some h2 =>
        rw [hl] at h
        simp only at h
        split at h
        · rename_i hsame
          obtain ⟨k1, k2⟩ := ih tbl T hse' h
          refine ⟨k1, fun i' t t' ht => ?_⟩
          rcases List.mem_cons.1 ht with he | ht
          · cases he
            exact ⟨mi, hmi, stF.fr, x, p.2, p.1, k1 _ _ hx, hp, by rw [sameH_eq _ _ hsame]; exact k1 _ _ hl, hv', hreads⟩
          · exact k2 i' t t' ht
        · cases h
      | none =>
        rw [hl] at h
        simp only at h
        obtain ⟨k1, k2⟩ := ih _ T hse' h
        have k1' : ∀ k y, lookH tbl k = some y → lookH T k = some y := fun k y hk => k1 k y (lookH_cons hl hk)
        refine ⟨k1', fun i' t t' ht => ?_⟩
        rcases List.mem_cons.1 ht with he | ht
        · cases he
          exact ⟨mi, hmi, stF.fr, x, p.2, p.1, k1' _ _ hx, hp, k1 _ _ (by simp [lookH]), hv', hreads⟩
        · exact k2 i' t t' ht
    · cases h

theorem runText_sound {cf : CallF} {louds : List Nat} {l : List MInstr} {st0 : St} (hdis : distinct (l.filterMap (·.dst)) = true) :
    ∀ (r : List MInstr) (k : Nat) (tbl T : List (List Nat × List Blk)) (st stF : St), (∀ j, r[j]? = l[k + j]?) → runText G cf (keysOf louds k r) tbl st = some (stF, T) → lookH tbl (louds.filter (· < k)) = some st.h →
    (∀ t, (∀ (j : Nat) (mj : MInstr), l[j]? = some mj → mj.dst = some t → k ≤ j) → fget st.fr t = fget st0.fr t) →
    (∀ s x, lookH tbl s = some x → lookH T s = some x) ∧ lookH T (louds.filter (· < k + r.length)) = some stF.h ∧ stF.base = st.base ∧ stF.esc = st.esc ∧
    (∀ t, (∀ (j : Nat) (mj : MInstr), r[j]? = some mj → mj.dst ≠ some t) → fget stF.fr t = fget st.fr t) ∧
    ∀ (i : Nat) (mi : MInstr), r[i]? = some mi → At (G := G) cf st0 stF (lookH T) l (k + i) mi (louds.filter (· < k + i)) (addLoud louds (louds.filter (· < k + i)) (k + i)) := by
  intro r
  induction r with
  | nil =>
    intro k tbl T st stF hr h hk hfr
    simp [keysOf, runText] at h
    obtain ⟨rfl, rfl⟩ := h
    exact ⟨fun _ _ h => h, by simpa using hk, rfl, rfl, fun _ _ => rfl, fun i mi h => by simp at h⟩
  | cons x r ih =>
    intro k tbl T st stF hr h hk hfr
    simp only [keysOf, runText, Option.bind_eq_some_iff] at h
    obtain ⟨p, hp, h⟩ := h
    have hx : l[k]? = some x := by have := hr 0; simpa using this.symm
    have hr' : ∀ j, r[j]? = l[k + 1 + j]? := fun j => by have := hr (j + 1); simpa [Nat.add_assoc, Nat.add_comm 1 j] using this
    -- in common: with the state behind, the table behind
    have main : ∀ (tbl' : List (List Nat × List Blk)), runText G cf (keysOf louds (k + 1) r) tbl' (st.put x.dst p) = some (stF, T) → (∀ s y, lookH tbl s = some y → lookH tbl' s = some y) →
        lookH tbl' (louds.filter (· < k + 1)) = some p.2 →
        (∀ s x, lookH tbl s = some x → lookH T s = some x) ∧ lookH T (louds.filter (· < k + (x :: r).length)) = some stF.h ∧ stF.base = st.base ∧ stF.esc = st.esc ∧
        (∀ t, (∀ (j : Nat) (mj : MInstr), (x :: r)[j]? = some mj → mj.dst ≠ some t) → fget stF.fr t = fget st.fr t) ∧
        ∀ (i : Nat) (mi : MInstr), (x :: r)[i]? = some mi → At (G := G) cf st0 stF (lookH T) l (k + i) mi (louds.filter (· < k + i)) (addLoud louds (louds.filter (· < k + i)) (k + i)) := by
      intro tbl' hrun hmono hkey
      obtain ⟨q1, q2, q3⟩ := st_put (st := st) (d := x.dst) (p := p)
      have hfr' : ∀ t, (∀ (j : Nat) (mj : MInstr), l[j]? = some mj → mj.dst = some t → k + 1 ≤ j) → fget (st.put x.dst p).fr t = fget st0.fr t := by
        intro t ht
        rw [put_fget fun hd => by have := ht k x hx hd; omega]
        exact hfr t fun j mj hj hd => by have := ht j mj hj hd; omega
      obtain ⟨m1, m2, m3, m4, m5, m6⟩ := ih (k + 1) tbl' T (st.put x.dst p) stF hr' hrun (by rw [q1]; exact hkey) hfr'
      refine ⟨fun s y hs => m1 s y (hmono s y hs), ?_, m3.trans q2, m4.trans q3, fun t ht => ?_, fun i mi hi => ?_⟩
      · simpa [Nat.add_assoc, Nat.add_comm 1] using m2
      · rw [m5 t fun j mj hj => ht (j + 1) mj (by simpa using hj)]
        exact put_fget (ht 0 x rfl)
      · cases i with
        | succ i => simpa [Nat.add_assoc, Nat.add_comm 1 i] using m6 i mi (by simpa using hi)
        | zero =>
          simp at hi
          subst hi
          refine ⟨st.fr, st.h, p.2, p.1, m1 _ _ (hmono _ _ hk), ?_, ?_, fun d hd => ?_, fun t ht => ⟨fun j mj hj hd hlt => ?_, fun hall => hfr t fun j mj hj hd => by have := hall j mj hj hd; omega⟩⟩
          · rw [stepI_congr G (st := { stF with fr := st.fr, h := st.h }) (st' := st) (m3.trans q2) (m4.trans q3) rfl x fun t _ => rfl]
            exact hp
          · have : addLoud louds (louds.filter (· < k + 0)) (k + 0) = louds.filter (· < k + 1) := by
              simp only [addLoud]
              refine List.filter_congr fun j hj => ?_
              simp [hj]
              rw [Bool.eq_iff_iff]; simp; omega
            rw [this]
            exact m1 _ _ hkey
          · rw [m5 d fun j mj hj hd' => by
              have := distinct_spec hdis hx (by rw [← hr']; exact hj) hd hd'
              omega]
            rw [hd]
            exact put_fget_self.symm
          · have hlt : j < k := by omega
            have hne : ∀ (i : Nat) (mi : MInstr), l[i]? = some mi → k ≤ i → mi.dst ≠ some t := fun i mi hi hle hd' => by
              have := distinct_spec hdis hj hi hd hd'
              omega
            rw [m5 t fun i mi hi => hne (k + 1 + i) mi (by rw [← hr']; exact hi) (by omega)]
            exact (put_fget (hne k x hx (Nat.le_refl _))).symm
    split at h
    · rename_i hnone
      split at h
      · rename_i hsame
        have hh := sameH_eq _ _ hsame
        have hp2 : (p.1, st.h) = p := by rw [← hh]
        rw [hp2] at h
        refine main tbl h (fun _ _ h => h) ?_
        rw [hh, ← hk]
        congr 1
        refine List.filter_congr fun j hj => ?_
        have : j ≠ k := by
          intro e
          subst e
          simp [hj] at hnone
        rw [Bool.eq_iff_iff]; simp; omega
      · cases h
    · rename_i key hkey
      have hkk : key = louds.filter (· < k + 1) := by
        split at hkey
        · cases hkey
          refine List.filter_congr fun j hj => ?_
          rw [Bool.eq_iff_iff]; simp; omega
        · cases hkey
      split at h
      · rename_i hl
        refine main ((key, p.2) :: tbl) h (fun s y hs => lookH_cons hl hs) ?_
        rw [← hkk]
        simp [lookH]
      · cases h

theorem filter_subs (p : Nat → Bool) : ∀ (l : List Nat), l.filter p ∈ subs l := by
  intro l
  induction l with
  | nil => simp [subs]
  | cons x r ih =>
    simp only [subs, List.mem_append, List.mem_map, List.filter_cons]
    cases p x with
    | true => exact .inr ⟨r.filter p, ih, rfl⟩
    | false => exact .inl ih
end
end Go.Av

/-
  Operations whose order is open: in each order the evaluator's end is the model's.
-/
namespace Go.Av
section
variable {G : Nat → Option (List AV)} {base : Nat} {esc : Option (List Nat)} {ρ ρ' : Nat → Option Nat} {H H' : List Blk} {w w' : World} {P : Program}

theorem FrRel.put' {fr : List (Nat × AV)} {a : Act} {d : Nat} {r : AV} {v : Value} (hf : FrRel ρ H w fr a.tmps) (hr : RelH ρ H w r v) (ht : r.top ≤ H.length) (hd : d < a.tmps.size) : FrRel ρ H w (fset fr d r) (a.put (some d) v).tmps := by
  intro t
  rw [fget_fset']
  simp only [Act.put]
  split
  · rename_i h
    subst h
    refine ⟨?_, ht⟩
    simpa [Array.getD, hd] using hr
  · rename_i h
    have := hf t
    refine ⟨?_, this.2⟩
    have hg : (a.tmps.setIfInBounds d v).getD t undef = a.tmps.getD t undef := by
      simp only [Array.getD_eq_getD_getElem?, Array.getElem?_setIfInBounds_ne h]
    rw [hg]
    exact this.1

theorem cOper_dst {frz mk : Bool} {nt : Nat} {ops : Array Oper} {o : Oper} {mi : MInstr} (hi : cOper P frz mk nt ops o = some mi) : mi.dst = o.dst ∧ (∀ d, o.dst = some d → d < nt) := by
  simp only [cOper, Option.bind_eq_some_iff] at hi
  obtain ⟨mop, hmop, g, hg, hi⟩ := hi
  cases hd : o.dst with
  | none => rw [hd] at hi; cases hi; exact ⟨rfl, fun d h => by simp at h⟩
  | some d =>
    rw [hd] at hi
    simp only at hi
    split at hi
    · cases hi; exact ⟨rfl, fun d' h => by cases h; assumption⟩
    · simp at hi

/-- One operation, with its guard: the model's is the evaluator's. -/
theorem stepI_wp {cf : CallF} (hcf : CallOk G P cf) {frz mk : Bool} {nt : Nat} {ops : Array Oper} {Q : Exit → Act → World → Prop} {K : Act → World → Prop} {i : Nat} {o : Oper} {mi : MInstr} {st : St} {a : Act} (ho : ops[i]? = some o) (hi : cOper P frz mk nt ops o = some mi)
    (hs : Sim G ρ st.h w) (hf : FrRel ρ st.h w st.fr a.tmps) (hb : st.base ≤ st.h.length) {v : AV} (hz : stepI G cf st mi = some (v, H'))
    (hK : ∀ ρ' w' u, Sim G ρ' H' w' → Step st.base st.esc ρ st.h w ρ' H' w' → RelH ρ' H' w' v u → v.top ≤ H'.length → K (a.put o.dst u) w') : wpOp P ops Q i K a w := by
  simp only [cOper, Option.bind_eq_some_iff] at hi
  obtain ⟨mop, hmop, g, hg, hi⟩ := hi
  have hdst : mi.op = mop ∧ mi.guard = g := by
    cases hd : o.dst with
    | none => rw [hd] at hi; cases hi; exact ⟨rfl, rfl⟩
    | some d =>
      rw [hd] at hi
      simp only at hi
      split at hi
      · cases hi; exact ⟨rfl, rfl⟩
      · simp at hi
  obtain ⟨hd2, hd3⟩ := hdst
  simp only [wpOp, ho]
  simp only [stepI, hd2, hd3] at hz
  cases hgo : o.guard with
  | none =>
    rw [hgo] at hg
    simp [cGuard] at hg; subst hg
    rw [if_pos (by simp [Region.wanted, hgo])]
    exact .inl (op_wp hcf hs rfl hb hf hmop hz (fun ρ' w' u h1 h2 h3 h4 => hK ρ' w' u h1 h2 h3 h4))
  | some jb =>
    obtain ⟨j, want⟩ := jb
    rw [hgo] at hg
    simp only [cGuard, Option.bind_eq_some_iff] at hg
    obtain ⟨t, ht, hg⟩ := hg
    cases hg
    simp only at hz
    split at hz
    · rename_i b hfb
      have hfr := (hf t).1
      rw [hfb] at hfr
      have hbv := hfr.bool_inv
      have htl : t < a.tmps.size := by
        rcases Nat.lt_or_ge t a.tmps.size with h | h
        · exact h
        · simp [Array.getD, Nat.not_lt.2 h, undef] at hbv
      have hy : yielded ops a.tmps j = some b := by
        simp only [yielded]
        obtain ⟨oj, hoj, hojd⟩ := ht
        rw [hoj]
        simp only [Option.bind_some, hojd]
        have : a.tmps[t]? = some (.bool b) := by
          rw [Array.getElem?_eq_getElem htl]
          simp [Array.getD, htl] at hbv
          rw [hbv]
        rw [this]
      split at hz
      · rename_i hbw
        rw [if_pos (by simp [Region.wanted, hgo, hy, hbw])]
        exact .inl (op_wp hcf hs rfl hb hf hmop hz (fun ρ' w' u h1 h2 h3 h4 => hK ρ' w' u h1 h2 h3 h4))
      · rename_i hbw
        cases hz
        rw [if_neg (by simp [Region.wanted, hgo, hy]; exact hbw)]
        exact hK ρ w undef hs .refl (.undef _) (by simp [AV.top])
    · simp at hz

theorem cOpers_get {frz : Bool} {nt : Nat} {ops : Array Oper} : ∀ {os : List Oper} {l : List MInstr}, cOpers P frz nt ops os = some l → l.length = os.length ∧ ∀ (i : Nat) o, os[i]? = some o → ∃ mi mk, l[i]? = some mi ∧ cOper P frz mk nt ops o = some mi := by
  intro os
  induction os with
  | nil => intro l h; simp [cOpers] at h; subst h; exact ⟨rfl, fun i o h => by simp at h⟩
  | cons x r ih =>
    intro l h
    simp only [cOpers, Option.bind_eq_some_iff] at h
    obtain ⟨mi, hmi, l', hl', h⟩ := h
    cases h
    obtain ⟨k1, k2⟩ := ih hl'
    refine ⟨by simp [k1], fun i o ho => ?_⟩
    cases i with
    | zero => simp at ho; subst ho; exact ⟨mi, _, rfl, hmi⟩
    | succ i => exact k2 i o (by simpa using ho)

def unlisted (n : Nat) (listed : Array Bool) : Nat := (List.range n).countP fun i => !listed.getD i true

theorem unlisted_set {n : Nat} {listed : Array Bool} {i : Nat} (hi : i < n) (hs : listed.size = n) (hu : listed.getD i true = false) : unlisted n (listed.setIfInBounds i true) + 1 ≤ unlisted n listed := by
  have key : ∀ (l : List Nat), l.Nodup → (l.countP fun j => !(listed.setIfInBounds i true).getD j true) + (if i ∈ l then 1 else 0) = l.countP fun j => !listed.getD j true := by
    intro l
    induction l with
    | nil => intro _; simp
    | cons x r ih =>
      intro hnd
      obtain ⟨h1, h2⟩ := List.nodup_cons.1 hnd
      have := ih h2
      simp only [List.countP_cons, List.mem_cons]
      by_cases hx : i = x
      · subst hx
        rw [if_neg h1] at this
        have e1 : (listed.setIfInBounds i true).getD i true = true := by
          simp [Array.getD, hs, hi]
        rw [e1, hu]
        simp only [Bool.not_true, Bool.not_false, Bool.false_eq_true, if_false, if_true, true_or]
        omega
      · rw [getD_set_ne true hx]
        simp only [hx, false_or]
        rw [← this]
        omega
  have := key (List.range n) List.nodup_range
  rw [if_pos (List.mem_range.2 hi)] at this
  simp only [unlisted]
  omega

theorem all_of_unlisted {n : Nat} {listed : Array Bool} (hs : listed.size = n) (h : unlisted n listed = 0) : ∀ i, i < n → listed.getD i false = true := by
  intro i hi
  simp only [unlisted, List.countP_eq_zero, List.mem_range] at h
  have := h i hi
  simp [Array.getD, hs, hi] at this ⊢
  exact this

theorem getD_flip {n : Nat} {listed : Array Bool} (hs : listed.size = n) {i : Nat} (hi : i < n) (d e : Bool) : listed.getD i d = listed.getD i e := by
  simp [Array.getD, hs, hi]

/-- In every order. 'V': what an order may decide (which of two blocks is laid first): the tables, and the ends, that then hold. -/
theorem draw_wp_v {V : Type} {cf : CallF} (hcf : CallOk G P cf) {frz : Bool} {nt : Nat} {ops : Array Oper} {l : List MInstr} {louds : List Nat} {Q : Exit → Act → World → Prop} (hcomp : cOpers P frz nt ops ops.toList = some l)
    (hord : orderly ops.toList ops.size = true) (hseen : seen (ancsOf ops.toList) l = true) {st : St} {stF : V → St} {T : V → List Nat → Option (List Blk)} {Cons : V → List Nat → Prop} (hdis : distinct (l.filterMap (·.dst)) = true)
    (hbase : ∀ v, (stF v).base = st.base) (hesc : ∀ v, (stF v).esc = st.esc) (hend : ∀ v, Cons v louds → T v louds = some (stF v).h) (hlast : ∀ j ∈ louds, j < ops.size)
    (hkeep : ∀ v t, (∀ (j : Nat) (mj : MInstr), l[j]? = some mj → mj.dst ≠ some t) → fget (stF v).fr t = fget st.fr t)
    (hsw : ∀ (i : Nat) (mi : MInstr) s v, l[i]? = some mi → s ∈ subs louds → possible (ancsOf ops.toList) louds i s = true → Cons v s → ∃ v', Cons v' s ∧ Cons v' (addLoud louds s i) ∧ T v' s = T v s ∧
      ∀ (j : Nat) (mj : MInstr) t, l[j]? = some mj → mj.dst = some t → (∀ k ∈ louds, (k ∈ (ancsOf ops.toList).getD j [] ∨ k = j) → k ∈ s) → fget (stF v').fr t = fget (stF v).fr t)
    (hat : ∀ v (i : Nat) (mi : MInstr) s, l[i]? = some mi → s ∈ subs louds → possible (ancsOf ops.toList) louds i s = true → Cons v s → Cons v (addLoud louds s i) → At (G := G) cf st (stF v) (T v) l i mi s (addLoud louds s i)) {a0 : Act} {w0 : World} (ρ0 : Nat → Option Nat)
    (hpost : ∀ v ρ' w' a', Sim G ρ' (stF v).h w' → Step st.base st.esc ρ0 st.h w0 ρ' (stF v).h w' → FrRel ρ' (stF v).h w' (stF v).fr a'.tmps → a'.tmps.size = nt → a'.defers = a0.defers → Q .normal a' w') :
    ∀ (fuel : Nat) (listed : Array Bool) (a : Act) (w : World) (ρ : Nat → Option Nat) (h : List Blk) (frL : List (Nat × AV)) (v : V), listed.size = ops.size → unlisted ops.size listed ≤ fuel → Cons v (louds.filter fun j => listed.getD j false) →
      ClosedOps ops.toList (fun i => listed.getD i false = true) → T v (louds.filter fun j => listed.getD j false) = some h → Sim G ρ h w → Step st.base st.esc ρ0 st.h w0 ρ h w → st.base ≤ h.length → a.tmps.size = nt → a.defers = a0.defers →
      FrRel ρ h w frL a.tmps → (∀ t (i : Nat) (mi : MInstr), l[i]? = some mi → listed.getD i false = true → mi.dst = some t → fget frL t = fget (stF v).fr t) →
      (∀ t, (∀ (i : Nat) (mi : MInstr), l[i]? = some mi → mi.dst = some t → listed.getD i false = false) → fget frL t = fget st.fr t) →
      wpAny P .any ops Q fuel listed a w := by
  obtain ⟨hlen, hget⟩ := cOpers_get hcomp
  have hlen' : l.length = ops.size := by rw [hlen]; simp
  intro fuel
  -- all are done
  have fin : ∀ (listed : Array Bool) (a : Act) (w : World) (ρ : Nat → Option Nat) (h : List Blk) (frL : List (Nat × AV)) (v : V), (∀ i, i < ops.size → listed.getD i false = true) → Cons v (louds.filter fun j => listed.getD j false) →
      T v (louds.filter fun j => listed.getD j false) = some h → Sim G ρ h w → Step st.base st.esc ρ0 st.h w0 ρ h w → a.tmps.size = nt → a.defers = a0.defers →
      FrRel ρ h w frL a.tmps → (∀ t (i : Nat) (mi : MInstr), l[i]? = some mi → listed.getD i false = true → mi.dst = some t → fget frL t = fget (stF v).fr t) →
      (∀ t, (∀ (i : Nat) (mi : MInstr), l[i]? = some mi → mi.dst = some t → listed.getD i false = false) → fget frL t = fget st.fr t) → Q .normal a w := by
    intro listed a w ρ h frL v hall hcv hh hs hstep hsz hdef hf h1 h2
    have hfil : (louds.filter fun j => listed.getD j false) = louds := List.filter_eq_self.2 fun j hj => hall j (hlast j hj)
    rw [hfil] at hcv
    rw [hfil, hend v hcv] at hh
    cases hh
    refine hpost v ρ w a hs hstep (fun t => ?_) hsz hdef
    have : fget (stF v).fr t = fget frL t := by
      by_cases hex : ∃ (i : Nat) (mi : MInstr), l[i]? = some mi ∧ mi.dst = some t
      · obtain ⟨i, mi, hi, hd⟩ := hex
        exact (h1 t i mi hi (hall i (by rw [← hlen']; exact (List.getElem?_eq_some_iff.1 hi).1)) hd).symm
      · have hno : ∀ (j : Nat) (mj : MInstr), l[j]? = some mj → mj.dst ≠ some t := fun j mj hj hd => hex ⟨j, mj, hj, hd⟩
        rw [hkeep v t hno, h2 t fun i mi hi hd => (hno i mi hi hd).elim]
    rw [this]
    exact hf t
  induction fuel with
  | zero =>
    intro listed a w ρ h frL v hls hun hcv hcl hh hs hstep hb hsz hdef hf h1 h2
    have hall := all_of_unlisted hls (Nat.le_zero.1 hun)
    refine ⟨?_, fin listed a w ρ h frL v hall hcv hh hs hstep hsz hdef hf h1 h2⟩
    cases hr : Region.ready .any ops listed with
    | nil => rfl
    | cons x r =>
      have hx : x ∈ Region.ready .any ops listed := by rw [hr]; simp
      obtain ⟨hx0, o, ho, _⟩ := mem_ready.1 hx
      have hlt := (Array.getElem?_eq_some_iff.1 ho).1
      rw [getD_flip hls hlt true false, hall x hlt] at hx0
      cases hx0
  | succ fuel ih =>
    intro listed a w ρ h frL v hls hun hcv hcl hh hs hstep hb hsz hdef hf h1 h2
    refine ⟨fun hr => ?_, fun i hi => ?_⟩
    · -- none is ready: all are done
      refine fin listed a w ρ h frL v ?_ hcv hh hs hstep hsz hdef hf h1 h2
      intro i
      induction i using Nat.strongRecOn with
      | ind i ihi =>
        intro hlt
        cases hL : listed.getD i false with
        | true => rfl
        | false =>
          have ho : ops[i]? = some ops[i] := by simp [hlt]
          have hrdy : i ∈ Region.ready .any ops listed := by
            refine mem_ready.2 ⟨by rw [getD_flip hls hlt true false]; exact hL, ops[i], ho, fun e he hbe => ?_⟩
            have hp : e.on ∈ predsOf ops[i] := by
              refine List.mem_filterMap.2 ⟨e, by simpa using he, ?_⟩
              rw [if_pos hbe]
            have hlt2 := orderly_spec hord hlt (by simp [hlt]) _ hp
            exact ihi e.on hlt2 (by omega)
          rw [hr] at hrdy
          cases hrdy
    · obtain ⟨hi0, o, ho, hpre⟩ := mem_ready.1 hi
      have hlt : i < ops.size := (Array.getElem?_eq_some_iff.1 ho).1
      have hoL : ops.toList[i]? = some o := by simpa using ho
      obtain ⟨mi, mk, hmi, hci⟩ := hget i o hoL
      obtain ⟨hd1, hd2⟩ := cOper_dst hci
      have hpreds : ∀ p ∈ predsOf o, listed.getD p false = true := by
        intro p hp
        obtain ⟨e, he, hep⟩ := List.mem_filterMap.1 hp
        split at hep
        · rename_i hbe
          cases hep
          exact hpre e (by simpa using he) hbe
        · cases hep
      have hiF : listed.getD i false = false := by rw [getD_flip hls hlt false true]; exact hi0
      -- what it waits for is done
      have hanc : ∀ j ∈ (ancsOf ops.toList).getD i [], listed.getD j false = true := by
        intro j hj
        obtain ⟨o', ho', hall⟩ := ancs_good ops.toList i j hj
        rw [hoL] at ho'
        cases ho'
        exact hall (fun i => listed.getD i false = true) hcl hpreds
      have hancL : ∀ i' j, listed.getD i' false = true → j ∈ (ancsOf ops.toList).getD i' [] → listed.getD j false = true := by
        intro i' j hi' hj
        obtain ⟨o', ho', hall⟩ := ancs_good ops.toList i' j hj
        exact hall (fun i => listed.getD i false = true) hcl (hcl i' o' ho' hi')
      let s := louds.filter fun j => listed.getD j false
      have hmem : ∀ j, j ∈ s ↔ j ∈ louds ∧ listed.getD j false = true := fun j => List.mem_filter
      have hposs : possible (ancsOf ops.toList) louds i s = true := by
        simp only [possible, Bool.and_eq_true, Bool.not_eq_true', List.contains_eq_mem, decide_eq_false_iff_not, List.all_eq_true, Bool.or_eq_true, decide_eq_true_eq]
        refine ⟨fun hc => by { have := ((hmem i).1 hc).2; rw [this] at hiF; cases hiF }, fun j hj => ⟨?_, ?_⟩⟩
        · by_cases hc : j ∈ (ancsOf ops.toList).getD i []
          · exact .inr ((hmem j).2 ⟨hj, hanc j hc⟩)
          · exact .inl hc
        · by_cases hc : j ∈ s
          · have hjL := ((hmem j).1 hc).2
            refine .inr ⟨fun hc2 => ?_, fun k hk => ?_⟩
            · rw [hancL j i hjL hc2] at hiF
              cases hiF
            · by_cases hc3 : k ∈ (ancsOf ops.toList).getD j []
              · exact .inr ((hmem k).2 ⟨hk, hancL j k hjL hc3⟩)
              · exact .inl hc3
          · exact .inl hc
      obtain ⟨v', hc1, hc2, hT, hval⟩ := hsw i mi s v hmi (filter_subs _ _) hposs hcv
      have hh' : T v' s = some h := hT.trans hh
      have h1' : ∀ t (i : Nat) (mi : MInstr), l[i]? = some mi → listed.getD i false = true → mi.dst = some t → fget frL t = fget (stF v').fr t := by
        intro t j mj hj hL hd
        rw [hval j mj t hj hd fun k hk hor => by
          rcases hor with hor | rfl
          · exact (hmem k).2 ⟨hk, hancL j k hL hor⟩
          · exact (hmem k).2 ⟨hk, hL⟩]
        exact h1 t j mj hj hL hd
      obtain ⟨fr0, h0, h', u0, q1, q2, q3, q4, q5⟩ := hat v' i mi s hmi (filter_subs _ _) hposs hc1 hc2
      have hh0 : h0 = h := by
        have : some h0 = some h := q1.symm.trans hh'
        cases this
        rfl
      subst hh0
      -- what it looks at
      have hreads : ∀ t ∈ mi.reads, fget frL t = fget fr0 t := by
        intro t ht
        obtain ⟨r1, r2⟩ := q5 t ht
        by_cases hex : ∃ (j : Nat) (mj : MInstr), l[j]? = some mj ∧ mj.dst = some t
        · obtain ⟨j, mj, hj, hd⟩ := hex
          rcases seenAt_spec (seen_spec hseen hmi) hmi hj ht hd with hb | ⟨_, hb⟩
          · rw [r1 j mj hj hd hb.2]
            exact h1' t j mj hj (hanc j hb.1) hd
          · have hji : i ≤ j ∧ listed.getD j false = false := by
              rcases hb with rfl | hb
              · exact ⟨Nat.le_refl _, hiF⟩
              · refine ⟨by omega, ?_⟩
                cases hL : listed.getD j false with
                | false => rfl
                | true => rw [hancL j i hL hb.1] at hiF; cases hiF
            have huniq : ∀ (k : Nat) (mk : MInstr), l[k]? = some mk → mk.dst = some t → k = j := fun k mk hk hdk => distinct_spec hdis hk hj hdk hd
            rw [r2 fun k mk hk hdk => by rw [huniq k mk hk hdk]; exact hji.1]
            exact h2 t fun k mk hk hdk => by rw [huniq k mk hk hdk]; exact hji.2
        · have hno : ∀ (j : Nat) (mj : MInstr), l[j]? = some mj → mj.dst ≠ some t := fun j mj hj hd => hex ⟨j, mj, hj, hd⟩
          rw [r2 fun j mj hj hd => (hno j mj hj hd).elim, h2 t fun i mi hi hd => (hno i mi hi hd).elim]
      have hz : stepI G cf { fr := frL, base := st.base, esc := st.esc, h := h0 } mi = some (u0, h') := by
        rw [stepI_congr G (st := { fr := frL, base := st.base, esc := st.esc, h := h0 }) (st' := { stF v' with fr := fr0, h := h0 }) (hbase v').symm (hesc v').symm rfl mi hreads]
        exact q2
      refine stepI_wp hcf (st := { fr := frL, base := st.base, esc := st.esc, h := h0 }) ho hci hs hf hb hz ?_
      intro ρ' w' u k1 k2 k3 k4
      have hset : ∀ j, (listed.setIfInBounds i true).getD j false = (listed.getD j false || (j == i)) := by
        intro j
        by_cases hji : i = j
        · subst hji
          simp [Array.getD, hls, hlt]
        · rw [getD_set_ne false hji]
          have : (j == i) = false := by simpa using fun e : j = i => hji e.symm
          rw [this, Bool.or_false]
      have hlen2 := k2.len
      have hadd : (louds.filter fun j => (listed.setIfInBounds i true).getD j false) = addLoud louds s i := by
        simp only [addLoud]
        refine List.filter_congr fun j hj => ?_
        rw [hset]
        congr 1
        rw [Bool.eq_iff_iff]
        simp only [List.contains_eq_mem, decide_eq_true_eq]
        exact ⟨fun h => (hmem j).2 ⟨hj, h⟩, fun h => ((hmem j).1 h).2⟩
      refine ih (listed.setIfInBounds i true) (a.put o.dst u) w' ρ' h' (match mi.dst with | none => frL | some d => fset frL d u0) v' (by simpa using hls) ?_ ?_ ?_ ?_ k1 (hstep.trans k2) (by simp only at hlen2; omega) (by cases o.dst <;> simp [Act.put, hsz]) ?_ ?_ ?_ ?_
      · have := unlisted_set hlt hls hi0; omega
      · rw [hadd]; exact hc2
      · intro j oj hj hL p hp
        rw [hset] at hL ⊢
        rcases Bool.or_eq_true_iff.1 hL with hL | hL
        · have := hcl j oj hj hL p hp
          simp only at this
          rw [this]; rfl
        · have : j = i := by simpa using hL
          subst this
          rw [hoL] at hj
          cases hj
          rw [hpreds p hp]; rfl
      · rw [hadd]
        exact q3
      · rw [← hdef]; cases o.dst <;> rfl
      · have hf' := hf.step k2
        rw [hd1]
        cases hd : o.dst with
        | none => exact hf'
        | some d => exact hf'.put' k3 k4 (by rw [hsz]; exact hd2 d hd)
      · intro t j mj hj hL hd
        rw [hset] at hL
        cases hdi : mi.dst with
        | none =>
          rcases Bool.or_eq_true_iff.1 hL with hL | hL
          · exact h1' t j mj hj hL hd
          · have : j = i := by simpa using hL
            subst this
            rw [hmi] at hj
            cases hj
            rw [hd] at hdi
            cases hdi
        | some d =>
          simp only [fget_fset']
          by_cases hdt : d = t
          · subst hdt
            rw [if_pos rfl]
            exact q4 d hdi
          · rw [if_neg hdt]
            rcases Bool.or_eq_true_iff.1 hL with hL | hL
            · exact h1' t j mj hj hL hd
            · have : j = i := by simpa using hL
              subst this
              rw [hmi] at hj
              cases hj
              rw [hd] at hdi
              cases hdi
              exact (hdt rfl).elim
      · intro t ht
        have hold : ∀ (j : Nat) (mj : MInstr), l[j]? = some mj → mj.dst = some t → listed.getD j false = false := by
          intro j mj hj hd
          have := ht j mj hj hd
          rw [hset] at this
          exact (Bool.or_eq_false_iff.1 this).1
        cases hdi : mi.dst with
        | none => exact h2 t hold
        | some d =>
          simp only [fget_fset']
          by_cases hdt : d = t
          · subst hdt
            have := ht i mi hmi hdi
            rw [hset] at this
            simp at this
          · rw [if_neg hdt]
            exact h2 t hold

/-- In every order. -/
theorem draw_wp {cf : CallF} (hcf : CallOk G P cf) {frz : Bool} {nt : Nat} {ops : Array Oper} {l : List MInstr} {louds : List Nat} {Q : Exit → Act → World → Prop} (hcomp : cOpers P frz nt ops ops.toList = some l)
    (hord : orderly ops.toList ops.size = true) (hseen : seen (ancsOf ops.toList) l = true) {st stF : St} {T : List Nat → Option (List Blk)} (hdis : distinct (l.filterMap (·.dst)) = true)
    (hbase : stF.base = st.base) (hesc : stF.esc = st.esc) (hend : T louds = some stF.h) (hlast : ∀ j ∈ louds, j < ops.size)
    (hkeep : ∀ t, (∀ (j : Nat) (mj : MInstr), l[j]? = some mj → mj.dst ≠ some t) → fget stF.fr t = fget st.fr t)
    (hat : ∀ (i : Nat) (mi : MInstr) s, l[i]? = some mi → s ∈ subs louds → possible (ancsOf ops.toList) louds i s = true → At (G := G) cf st stF T l i mi s (addLoud louds s i)) {a0 : Act} {w0 : World} (ρ0 : Nat → Option Nat)
    (hpost : ∀ ρ' w' a', Sim G ρ' stF.h w' → Step st.base st.esc ρ0 st.h w0 ρ' stF.h w' → FrRel ρ' stF.h w' stF.fr a'.tmps → a'.tmps.size = nt → a'.defers = a0.defers → Q .normal a' w')
    (fuel : Nat) (listed : Array Bool) (a : Act) (w : World) (ρ : Nat → Option Nat) (h : List Blk) (frL : List (Nat × AV)) (k1 : listed.size = ops.size) (k2 : unlisted ops.size listed ≤ fuel)
    (k3 : ClosedOps ops.toList (fun i => listed.getD i false = true)) (k4 : T (louds.filter fun j => listed.getD j false) = some h) (k5 : Sim G ρ h w) (k6 : Step st.base st.esc ρ0 st.h w0 ρ h w) (k7 : st.base ≤ h.length) (k8 : a.tmps.size = nt) (k9 : a.defers = a0.defers)
    (k10 : FrRel ρ h w frL a.tmps) (k11 : ∀ t (i : Nat) (mi : MInstr), l[i]? = some mi → listed.getD i false = true → mi.dst = some t → fget frL t = fget stF.fr t)
    (k12 : ∀ t, (∀ (i : Nat) (mi : MInstr), l[i]? = some mi → mi.dst = some t → listed.getD i false = false) → fget frL t = fget st.fr t) :
    wpAny P .any ops Q fuel listed a w :=
  draw_wp_v (V := Unit) hcf hcomp hord hseen (st := st) (stF := fun _ => stF) (T := fun _ => T) (Cons := fun _ _ => True) hdis (fun _ => hbase) (fun _ => hesc) (fun _ _ => hend) hlast (fun _ => hkeep)
    (fun _ _ _ _ _ _ _ _ => ⟨(), trivial, trivial, rfl, fun _ _ _ _ _ _ => rfl⟩) (fun _ i mi s h1 h2 h3 _ _ => hat i mi s h1 h2 h3) ρ0 (fun _ => hpost) fuel listed a w ρ h frL () k1 k2 trivial k3 k4 k5 k6 k7 k8 k9 k10 k11 k12

theorem unlisted_le (n : Nat) (listed : Array Bool) : unlisted n listed ≤ n := by
  have := List.countP_le_length (p := fun i => !listed.getD i true) (l := List.range n)
  simpa [unlisted] using this

theorem rel0_drawn (n : Nat) {a : AV} {v : Value} (h : Rel0 ρ w a v) : Rel0 ρ { w with drawn := n } a v :=
  h.mono a.top (Nat.le_refl _) (fun _ h _ => ⟨h, rfl⟩) (fun _ _ _ _ h => h)

theorem ref_drawn (n : Nat) {a : AV} {v : Value} (hr : a.isRef = true) (h : RefRel ρ H w a v) : RefRel ρ H { w with drawn := n } a v :=
  RefRel.of_eq hr h rfl rfl (fun _ _ => rfl) fun _ _ h => rel0_drawn n h

theorem relH_drawn (n : Nat) {a : AV} {v : Value} (h : RelH ρ H w a v) : RelH ρ H { w with drawn := n } a v :=
  h.mono a.top (Nat.le_refl _) (fun _ h _ => ⟨h, rfl⟩) (fun _ _ hr _ h => ref_drawn n hr h)

theorem Sim.drawn (hs : Sim G ρ H w) (n : Nat) : Sim G ρ H { w with drawn := n } := by
  refine ⟨hs.inj, hs.dom, fun b x hx => ?_, hs.tops, fun g cs hg => rel0_drawn n (hs.glob g cs hg)⟩
  have := hs.blk b x hx
  cases x with
  | var ty cs =>
    obtain ⟨β, c, h1, h2, h3, h4⟩ := this
    exact ⟨β, c, h1, h2, h3, fun j x hj => by obtain ⟨v, k1, k2⟩ := h4 j x hj; exact ⟨v, k1, relH_drawn n k2⟩⟩
  | arr g s es =>
    obtain ⟨β, c, e, fz, h1, h2, h3, h4, h5, h6, h7, h8⟩ := this
    exact ⟨β, c, e, fz, h1, h2, h3, h4, h5, h6, h7, fun i el cs j x a b d => by obtain ⟨v, k1, k2⟩ := h8 i el cs j x a b d; exact ⟨v, k1, relH_drawn n k2⟩⟩
  | fro s es => exact this
  | siter s pos => exact this
  | map kd m =>
    obtain ⟨β, es, c, h1, h2, h3⟩ := this
    exact ⟨β, es, c, h1, h2, h3.mono fun p _ v hv => relH_drawn n hv⟩

theorem Step.drawn (n : Nat) : Step base esc ρ H w ρ H { w with drawn := n } :=
  ⟨rfl, rfl, rfl, Nat.le_refl _, fun _ _ _ => rfl, fun b _ h => .inl ⟨b, h⟩, Nat.le_refl _, fun _ _ hr _ h => ref_drawn n hr h, fun _ _ _ h => h⟩

theorem loudsAt_lt {lcs : List Nat} : ∀ {l : List MInstr} {k j : Nat}, j ∈ loudsAt lcs k l → j < k + l.length := by
  intro l
  induction l with
  | nil => intro k j h; simp [loudsAt] at h
  | cons x r ih =>
    intro k j h
    simp only [loudsAt] at h
    split at h
    · rcases List.mem_cons.1 h with h | h
      · subst h; simp
      · have := ih h; simp; omega
    · have := ih h; simp; omega

/-- A region whose order is open. -/
theorem region_wp (hm : P.follows .mixedOrders = true) {cf : CallF} (hcf : CallOk G P cf) {frz : Bool} {nt : Nat} {ops : Array Oper} {lcs keep : List Nat} {l : List DInstr} {ex : List (Nat × List Nat × List Nat)} {Q : Exit → Act → World → Prop}
    (hc : cDraw P frz nt ops lcs keep = some (.draw l ex keep)) {st stF : St} {tbl T : List (List Nat × List Blk)} (ht : runText G cf l [([], st.h)] st = some (stF, tbl)) (hx : runExtra G cf l stF ex tbl = some T) {id : Nat} {a : Act}
    (hs : Sim G ρ st.h w) (hf : FrRel ρ st.h w st.fr a.tmps) (hb : st.base ≤ st.h.length) (hsz : a.tmps.size = nt)
    (hpost : ∀ ρ' w' a', Sim G ρ' stF.h w' → Step st.base st.esc ρ st.h w ρ' stF.h w' → FrRel ρ' stF.h w' stF.fr a'.tmps → a'.tmps.size = nt → a'.defers = a.defers → Q .normal a' w') : (Code.region id ops true).wp P Q a w := by
  simp only [cDraw, Option.bind_eq_some_iff] at hc
  obtain ⟨il, hil, hc⟩ := hc
  split at hc
  · rename_i hchk
    simp only [Bool.and_eq_true] at hchk
    obtain ⟨⟨⟨hord, hdis⟩, hseen⟩, hstrict⟩ := hchk
    cases hc
    obtain ⟨hlen, _⟩ := cOpers_get hil
    have hlen' : il.length = ops.size := by rw [hlen]; simp
    have hlt : ∀ j ∈ loudsAt lcs 0 il, j < ops.size := fun j hj => by have := loudsAt_lt hj; omega
    have hfull : (loudsAt lcs 0 il).filter (· < 0 + il.length) = loudsAt lcs 0 il := List.filter_eq_self.2 fun j hj => by have := hlt j hj; simp; omega
    obtain ⟨m1, m2, m3, m4, m5, m6⟩ := runText_sound (G := G) (cf := cf) (louds := loudsAt lcs 0 il) (st0 := st) hdis il 0 [([], st.h)] tbl st stF (fun j => by simp) ht (by
      have : (loudsAt lcs 0 il).filter (· < 0) = [] := List.filter_eq_nil_iff.2 fun j _ => by simp
      rw [this]; simp [lookH]) (fun _ _ => rfl)
    obtain ⟨k1, k2⟩ := runExtra_sound (G := G) (cf := cf) (louds := loudsAt lcs 0 il) (an := ancsOf ops.toList) (st0 := st) (fun t h => m5 t h) _ tbl T (fun e he => (List.all_eq_true.1 hstrict) e he) hx
    rw [hfull] at m2
    refine wp_region_any hm ?_
    have hfr0 : FrRel ρ st.h { w with drawn := w.drawn + 1 } st.fr a.tmps := hf.step (base := st.base) (esc := st.esc) (Step.drawn _)
    refine draw_wp hcf (louds := loudsAt lcs 0 il) (st := st) (stF := stF) (T := lookH T) (a0 := a) (w0 := w) hil hord hseen hdis m3 m4 (k1 _ _ m2) hlt (fun t h => m5 t h) ?_ ρ hpost ops.size _ a _ ρ st.h st.fr (by simp) (unlisted_le _ _) ?_ ?_ (hs.drawn _) (Step.drawn _) hb hsz rfl hfr0 ?_ ?_
    · intro i mi s hi hsub hposs
      have hi' : i < il.length := (List.getElem?_eq_some_iff.1 hi).1
      by_cases he : s = (loudsAt lcs 0 il).filter (· < i)
      · have := m6 i mi hi
        simp only [Nat.zero_add] at this
        rw [he]
        exact this.mono k1
      · obtain ⟨mi', h1, h2⟩ := k2 i s (addLoud (loudsAt lcs 0 il) s i) (by
          simp only [extraOf, List.mem_flatMap, List.mem_filterMap, List.mem_range]
          refine ⟨s, hsub, i, hi', ?_⟩
          rw [hposs, if_pos (by simp [he])])
        rw [hi] at h1
        cases h1
        exact h2
    · intro i o _ h
      simp [Array.getD] at h
    · have : ((loudsAt lcs 0 il).filter fun j => (Array.replicate ops.size false).getD j false) = [] := List.filter_eq_nil_iff.2 fun j _ => by simp [Array.getD]
      rw [this]
      exact k1 _ _ (m1 _ _ (by simp [lookH]))
    · intro t i mi _ h
      simp [Array.getD] at h
    · intro t _
      rfl
  · cases hc
end
end Go.Av

/-
  The evaluator's run of a body is the model's; its calls are the model's calls.
-/
namespace Go.Av
section
variable {G : Nat → Option (List AV)} {base : Nat} {esc : Option (List Nat)} {ρ ρ' : Nat → Option Nat} {H H' : List Blk} {w w' : World} {P : Program}

theorem fget_fset (fr : List (Nat × AV)) (d t : Nat) (v : AV) : fget (fset fr d v) t = if d = t then v else fget fr t := by
  induction fr with
  | nil => simp [fset, fget]
  | cons x r ih =>
    obtain ⟨u, y⟩ := x
    simp only [fset]
    split
    · rename_i h
      subst h
      simp only [fget]
      split <;> rfl
    · rename_i h
      simp only [fget, ih]
      split
      · rename_i h2
        subst h2
        rw [if_neg (fun h3 => h h3.symm)]
      · rfl

theorem FrRel.put {fr : List (Nat × AV)} {a : Act} {d : Nat} {r : AV} {v : Value} (hf : FrRel ρ H w fr a.tmps) (hr : RelH ρ H w r v) (ht : r.top ≤ H.length) (hd : d < a.tmps.size) : FrRel ρ H w (fset fr d r) (a.put (some d) v).tmps := by
  intro t
  rw [fget_fset]
  simp only [Act.put]
  split
  · rename_i h
    subst h
    refine ⟨?_, ht⟩
    simpa [Array.getD, hd] using hr
  · rename_i h
    have := hf t
    refine ⟨?_, this.2⟩
    have hg : (a.tmps.setIfInBounds d v).getD t undef = a.tmps.getD t undef := by
      simp only [Array.getD_eq_getD_getElem?, Array.getElem?_setIfInBounds_ne h]
    rw [hg]
    exact this.1

theorem fget_fkeep {fr : List (Nat × AV)} {ks : List Nat} {t : Nat} : fget (fkeep fr ks) t = fget fr t ∨ fget (fkeep fr ks) t = .undef := by
  induction ks with
  | nil => exact .inr rfl
  | cons k r ih =>
    simp only [fkeep, fget]
    split
    · rename_i h; subst h; exact .inl rfl
    · exact ih

theorem FrRel.keep {fr : List (Nat × AV)} {tmps : Array Value} {ks : List Nat} (hf : FrRel ρ H w fr tmps) : FrRel ρ H w (fkeep fr ks) tmps := by
  intro t
  rcases fget_fkeep (fr := fr) (ks := ks) (t := t) with h | h
  · rw [h]; exact hf t
  · rw [h]; exact ⟨.undef _, by simp [AV.top]⟩

theorem runOps_base {cf : CallF} : ∀ (il : List MInstr) (st st' : St), runOps G cf il st = some st' → st'.base = st.base ∧ st'.esc = st.esc := by
  have hput : ∀ (st : St) (d : Option Nat) (p : AV × List Blk), (st.put d p).base = st.base ∧ (st.put d p).esc = st.esc := by
    intro st d p; cases d <;> exact ⟨rfl, rfl⟩
  intro il
  induction il with
  | nil => intro st st' h; simp [runOps] at h; subst h; exact ⟨rfl, rfl⟩
  | cons i r ih =>
    intro st st' h
    simp only [runOps] at h
    split at h
    · simp only [Option.bind_eq_some_iff] at h
      obtain ⟨p, _, h⟩ := h
      have := ih _ _ h
      have h2 := hput st i.dst p
      exact ⟨this.1.trans h2.1, this.2.trans h2.2⟩
    · split at h
      · split at h
        · simp only [Option.bind_eq_some_iff] at h
          obtain ⟨p, _, h⟩ := h
          have := ih _ _ h
          have h2 := hput st i.dst p
          exact ⟨this.1.trans h2.1, this.2.trans h2.2⟩
        · have := ih _ _ h
          have h2 := hput st i.dst (.undef, st.h)
          exact ⟨this.1.trans h2.1, this.2.trans h2.2⟩
      · simp at h

theorem runText_base {cf : CallF} : ∀ (l : List DInstr) (tbl T : List (List Nat × List Blk)) (st st' : St), runText G cf l tbl st = some (st', T) → st'.base = st.base ∧ st'.esc = st.esc := by
  intro l
  induction l with
  | nil => intro tbl T st st' h; simp [runText] at h; obtain ⟨rfl, _⟩ := h; exact ⟨rfl, rfl⟩
  | cons d r ih =>
    intro tbl T st st' h
    simp only [runText, Option.bind_eq_some_iff] at h
    obtain ⟨p, _, h⟩ := h
    have go : ∀ (tbl : List (List Nat × List Blk)) p, runText G cf r tbl (st.put d.i.dst p) = some (st', T) → st'.base = st.base ∧ st'.esc = st.esc := by
      intro tbl p h
      have := ih _ _ _ _ h
      obtain ⟨_, q2, q3⟩ := st_put (st := st) (d := d.i.dst) (p := p)
      exact ⟨this.1.trans q2, this.2.trans q3⟩
    split at h
    · split at h
      · exact go _ _ h
      · cases h
    · split at h
      · exact go _ _ h
      · cases h

theorem exec_base {cf : CallF} : ∀ (n : Nat) (m : M) (st : St) (e : Ex) (st' : St), exec G cf n m st = some (e, st') → st'.base = st.base ∧ st'.esc = st.esc := by
  intro n
  induction n with
  | zero => intro m st e st' h; simp [exec] at h
  | succ n ih =>
    intro m st e st' h
    cases m with
    | skip => simp [exec] at h; obtain ⟨_, rfl⟩ := h; exact ⟨rfl, rfl⟩
    | ops l keep =>
      simp only [exec, Option.bind_eq_some_iff] at h
      obtain ⟨s1, h1, h⟩ := h
      cases h
      exact runOps_base l st s1 h1
    | draw l ex keep =>
      simp only [exec, Option.bind_eq_some_iff] at h
      obtain ⟨⟨s1, tbl⟩, h1, T, _, h⟩ := h
      cases h
      exact runText_base l _ _ st s1 h1
    | seq a b =>
      simp only [exec, Option.bind_eq_some_iff] at h
      obtain ⟨⟨e1, s1⟩, h1, h⟩ := h
      have k1 := ih _ _ _ _ h1
      cases e1 with
      | normal =>
        have k2 := ih _ _ _ _ h
        exact ⟨k2.1.trans k1.1, k2.2.trans k1.2⟩
      | _ => cases h; exact k1
    | cond c a b =>
      simp only [exec] at h
      split at h
      · exact ih _ _ _ _ h
      · exact ih _ _ _ _ h
      · simp at h
    | block id b =>
      simp only [exec, Option.bind_eq_some_iff] at h
      obtain ⟨⟨e1, s1⟩, h1, h⟩ := h
      have k1 := ih _ _ _ _ h1
      cases e1 with
      | exit i =>
        simp only at h
        split at h <;> (cases h; exact k1)
      | _ => cases h; exact k1
    | loop keep b =>
      simp only [exec, Option.bind_eq_some_iff] at h
      obtain ⟨⟨e1, s1⟩, h1, h⟩ := h
      have k1 := ih _ _ _ _ h1
      cases e1 with
      | normal =>
        have k2 := ih _ _ _ _ h
        exact ⟨k2.1.trans k1.1, k2.2.trans k1.2⟩
      | _ => cases h; exact k1
    | exit id => simp [exec] at h; obtain ⟨_, rfl⟩ := h; exact ⟨rfl, rfl⟩
    | scope b => simp only [exec] at h; exact ih _ _ _ _ h
    | ret => simp [exec] at h; obtain ⟨_, rfl⟩ := h; exact ⟨rfl, rfl⟩

theorem ops_wp {cf : CallF} (hcf : CallOk G P cf) {frz : Bool} {nt : Nat} {ops : Array Oper} {Q : Exit → Act → World → Prop} : ∀ (rest : List Oper) (k : Nat) (il : List MInstr) (st st' : St) (ρ : Nat → Option Nat) (w : World) (a : Act), (∀ j, rest[j]? = ops[k + j]?) → cOpers P frz nt ops rest = some il →
    Sim G ρ st.h w → FrRel ρ st.h w st.fr a.tmps → st.base ≤ st.h.length → a.tmps.size = nt → runOps G cf il st = some st' →
    (∀ ρ' w' a', Sim G ρ' st'.h w' → Step st.base st.esc ρ st.h w ρ' st'.h w' → FrRel ρ' st'.h w' st'.fr a'.tmps → a'.tmps.size = nt → a'.defers = a.defers → Q .normal a' w') →
    wpOps P ops Q (List.range' k rest.length) a w := by
  intro rest
  induction rest with
  | nil =>
    intro k il st st' ρ w a _ hc hs hf hb hsz hr hQ
    simp [cOpers] at hc; subst hc
    simp [runOps] at hr; subst hr
    simp only [List.length_nil, List.range'_zero, wpOps]
    exact hQ ρ w a hs .refl hf hsz rfl
  | cons o r ih =>
    intro k il st st' ρ w a hops hc hs hf hb hsz hr hQ
    simp only [cOpers, Option.bind_eq_some_iff] at hc
    obtain ⟨i, hi, l, hl, hc⟩ := hc
    cases hc
    have ho : ops[k]? = some o := by have := hops 0; simpa using this.symm
    have hrest : ∀ j, r[j]? = ops[k + 1 + j]? := fun j => by have := hops (j + 1); simpa [Nat.add_assoc, Nat.add_comm 1 j] using this
    simp only [cOper, Option.bind_eq_some_iff] at hi
    obtain ⟨mop, hmop, g, hg, hi⟩ := hi
    simp only [List.length_cons, List.range'_succ, wpOps, ho]
    -- the destination
    have hdst : i.dst = o.dst ∧ i.op = mop ∧ i.guard = g ∧ (∀ d, o.dst = some d → d < nt) := by
      cases hd : o.dst with
      | none => rw [hd] at hi; cases hi; exact ⟨rfl, rfl, rfl, fun d h => by simp at h⟩
      | some d =>
        rw [hd] at hi
        simp only at hi
        split at hi
        · cases hi; exact ⟨rfl, rfl, rfl, fun d' h => by cases h; assumption⟩
        · simp at hi
    obtain ⟨hd1, hd2, hd3, hd4⟩ := hdst
    have hput : ∀ (ρ' : Nat → Option Nat) (w' : World) (p : AV × List Blk) (v : Value), FrRel ρ' p.2 w' st.fr a.tmps → RelH ρ' p.2 w' p.1 v → p.1.top ≤ p.2.length → FrRel ρ' p.2 w' (st.put i.dst p).fr (a.put o.dst v).tmps := by
      intro ρ' w' p v h1 h2 h3
      rw [hd1]
      cases hd : o.dst with
      | none => exact h1
      | some d => exact h1.put h2 h3 (by rw [hsz]; exact hd4 d hd)
    have hputs : ∀ (p : AV × List Blk), (st.put i.dst p).h = p.2 ∧ (st.put i.dst p).base = st.base ∧ (st.put i.dst p).esc = st.esc := by
      intro p; cases i.dst <;> exact ⟨rfl, rfl, rfl⟩
    have hsize : ∀ v, (a.put o.dst v).tmps.size = nt := by
      intro v; cases o.dst <;> simp [Act.put, hsz]
    have hdef : ∀ v, (a.put o.dst v).defers = a.defers := by intro v; cases o.dst <;> rfl
    have run : ∀ p, stepOp G cf st mop = some p → runOps G cf l (st.put i.dst p) = some st' → o.wp P a w (wpOps P ops Q (List.range' (k + 1) r.length)) Q := by
      intro p hp hrun
      obtain ⟨x, h'⟩ := p
      refine op_wp hcf hs rfl hb hf hmop hp (fun ρ' w' v h1 h2 h3 h4 => ?_)
      obtain ⟨e1, e2, e3⟩ := hputs (x, h')
      have hlen := h2.len
      refine ih (k + 1) l (st.put i.dst (x, h')) st' ρ' w' (a.put o.dst v) hrest hl (by rw [e1]; exact h1) ?_ (by rw [e1, e2]; simp only; omega) (hsize v) hrun (fun ρ2 w2 a2 m1 m2 m3 m4 m5 => ?_)
      · rw [e1]
        exact hput ρ' w' (x, h') v (hf.step h2) h3 h4
      · rw [e1, e2, e3] at m2
        exact hQ ρ2 w2 a2 m1 (h2.trans m2) m3 m4 (m5.trans (hdef v))
    simp only [runOps] at hr
    cases hgo : o.guard with
    | none =>
      rw [hgo] at hg
      simp [cGuard] at hg; subst hg
      rw [hd3] at hr
      simp only [Option.bind_eq_some_iff, hd2] at hr
      obtain ⟨p, hp, hrun⟩ := hr
      rw [if_pos (by simp [Region.wanted, hgo])]
      exact .inl (run p hp hrun)
    | some jb =>
      obtain ⟨j, want⟩ := jb
      rw [hgo] at hg
      simp only [cGuard, Option.bind_eq_some_iff] at hg
      obtain ⟨t, ht, hg⟩ := hg
      cases hg
      rw [hd3] at hr
      simp only at hr
      split at hr
      · rename_i b hfb
        have hfr := (hf t).1
        rw [hfb] at hfr
        have hbv := hfr.bool_inv
        have htl : t < a.tmps.size := by
          rcases Nat.lt_or_ge t a.tmps.size with h | h
          · exact h
          · simp [Array.getD, Nat.not_lt.2 h, undef] at hbv
        have hy : yielded ops a.tmps j = some b := by
          simp only [yielded]
          obtain ⟨oj, hoj, hojd⟩ := ht
          rw [hoj]
          simp only [Option.bind_some, hojd]
          have : a.tmps[t]? = some (.bool b) := by
            rw [Array.getElem?_eq_getElem htl]
            simp [Array.getD, htl] at hbv
            rw [hbv]
          rw [this]
        split at hr
        · rename_i hbw
          simp only [Option.bind_eq_some_iff, hd2] at hr
          obtain ⟨p, hp, hrun⟩ := hr
          rw [if_pos (by simp [Region.wanted, hgo, hy, hbw])]
          exact .inl (run p hp hrun)
        · rename_i hbw
          rw [if_neg (by simp [Region.wanted, hgo, hy]; exact hbw)]
          obtain ⟨e1, e2, e3⟩ := hputs (.undef, st.h)
          refine ih (k + 1) l (st.put i.dst (.undef, st.h)) st' ρ w (a.put o.dst undef) hrest hl (by rw [e1]; exact hs) ?_ (by rw [e1, e2]; exact hb) (hsize _) hr (fun ρ2 w2 a2 m1 m2 m3 m4 m5 => ?_)
          · rw [e1]
            exact hput ρ w (.undef, st.h) undef hf (.undef _) (by simp [AV.top])
          · rw [e1, e2, e3] at m2
            exact hQ ρ2 w2 a2 m1 m2 m3 m4 (m5.trans (hdef _))
      · simp at hr

def exOf : Ex → Exit
  | .normal => .normal
  | .exit id => .exit id
  | .ret => .ret

/-- What is behind a piece of code. -/
def After (G : Nat → Option (List AV)) (nt : Nat) (ρ : Nat → Option Nat) (st : St) (w : World) (a : Act) (e : Ex) (st' : St) (Q : Exit → Act → World → Prop) : Prop :=
  ∀ ρ' w' a', Sim G ρ' st'.h w' → Step st.base st.esc ρ st.h w ρ' st'.h w' → FrRel ρ' st'.h w' st'.fr a'.tmps → a'.tmps.size = nt → a'.defers = a.defers → Q (exOf e) a' w'

theorem exec_wp (hmix : P.follows .mixedOrders = true) {cf : CallF} (hcf : CallOk G P cf) {frz : Bool} {nt : Nat} : ∀ (n : Nat) (m : M) (st : St) (e : Ex) (st' : St), exec G cf n m st = some (e, st') → ∀ (c : Code) (hs0 hs1 : List (List Nat)), cCode P frz nt c hs0 = some (m, hs1) →
    ∀ (ρ : Nat → Option Nat) (w : World) (a : Act) (Q : Exit → Act → World → Prop), Sim G ρ st.h w → FrRel ρ st.h w st.fr a.tmps → st.base ≤ st.h.length → a.tmps.size = nt →
    After G nt ρ st w a e st' Q → c.wp P Q a w ∧ ∀ b keep, m = .loop keep b → ∃ c0, c = .loop c0 ∧ Code.rounds P c0 Q n a w := by
  intro n
  induction n with
  | zero => intro m st e st' h; simp [exec] at h
  | succ n ih =>
    intro m st e st' h c hs0 hs1 hc ρ w a Q hs hf hb hsz hQ
    cases c with
    | skip =>
      simp [cCode] at hc; obtain ⟨rfl, _⟩ := hc
      simp [exec] at h; obtain ⟨rfl, rfl⟩ := h
      exact ⟨wp_skip (hQ ρ w a hs .refl hf hsz rfl), fun b keep hm => by cases hm⟩
    | label l =>
      simp [cCode] at hc; obtain ⟨rfl, _⟩ := hc
      simp [exec] at h; obtain ⟨rfl, rfl⟩ := h
      exact ⟨wp_label (hQ ρ w a hs .refl hf hsz rfl), fun b keep hm => by cases hm⟩
    | exit id =>
      simp [cCode] at hc; obtain ⟨rfl, _⟩ := hc
      simp [exec] at h; obtain ⟨rfl, rfl⟩ := h
      exact ⟨wp_exit (hQ ρ w a hs .refl hf hsz rfl), fun b keep hm => by cases hm⟩
    | ret =>
      simp [cCode] at hc; obtain ⟨rfl, _⟩ := hc
      simp [exec] at h; obtain ⟨rfl, rfl⟩ := h
      exact ⟨wp_ret (hQ ρ w a hs .refl hf hsz rfl), fun b keep hm => by cases hm⟩
    | region id ops draw =>
      cases draw with
      | true =>
        match hs0, hc with
        | [], hc => simp [cCode] at hc
        | [_], hc => simp [cCode] at hc
        | keep :: lcs :: hs2, hc =>
          simp only [cCode, Option.bind_eq_some_iff] at hc
          obtain ⟨m0, hm0, hc⟩ := hc
          cases hc
          have hform : ∃ l ex, m = .draw l ex keep := by
            simp only [cDraw, Option.bind_eq_some_iff] at hm0
            obtain ⟨l, _, hm0⟩ := hm0
            split at hm0
            · cases hm0; exact ⟨_, _, rfl⟩
            · cases hm0
          obtain ⟨l, ex, rfl⟩ := hform
          simp only [exec, Option.bind_eq_some_iff] at h
          obtain ⟨⟨s1, tbl⟩, h1, T, h2, h⟩ := h
          cases h
          exact ⟨region_wp hmix hcf hm0 h1 h2 hs hf hb hsz fun ρ' w' a' m1 m2 m3 m4 m5 => hQ ρ' w' a' m1 m2 m3.keep m4 m5, fun b keep hm => by cases hm⟩
      | false =>
        cases hs0 with
        | nil => simp [cCode] at hc
        | cons keep hs2 =>
          simp only [cCode, Option.bind_eq_some_iff] at hc
          obtain ⟨l, hl, hc⟩ := hc
          cases hc
          simp only [exec, Option.bind_eq_some_iff] at h
          obtain ⟨s1, h1, h⟩ := h
          cases h
          refine ⟨wp_region ?_, fun b keep hm => by cases hm⟩
          have := ops_wp (Q := Q) hcf ops.toList 0 l st s1 ρ w a (fun j => by simp) hl hs hf hb hsz h1 (fun ρ' w' a' m1 m2 m3 m4 m5 => hQ ρ' w' a' m1 m2 m3.keep m4 m5)
          rw [List.range_eq_range']
          simpa using this
    | seq x y =>
      simp only [cCode, Option.bind_eq_some_iff] at hc
      obtain ⟨⟨mx, h2⟩, hx, ⟨my, h3⟩, hy, hc⟩ := hc
      cases hc
      simp only [exec, Option.bind_eq_some_iff] at h
      obtain ⟨⟨e1, s1⟩, h1, h⟩ := h
      refine ⟨?_, fun b keep hm => by cases hm⟩
      have hbs := exec_base n _ _ _ _ h1
      refine wp_seq (ih _ _ _ _ h1 x hs0 h2 hx ρ w a _ hs hf hb hsz ?_).1
      intro ρ1 w1 a1 m1 m2 m3 m4 m5
      cases e1 with
      | normal =>
        simp only at h
        refine (ih _ _ _ _ h y h2 h3 hy ρ1 w1 a1 Q m1 m3 (by have := m2.len; omega) m4 ?_).1
        intro ρ2 w2 a2 k1 k2 k3 k4 k5
        rw [hbs.1, hbs.2] at k2
        exact hQ ρ2 w2 a2 k1 (m2.trans k2) k3 k4 (k5.trans m5)
      | exit id => cases h; exact hQ ρ1 w1 a1 m1 m2 m3 m4 m5
      | ret => cases h; exact hQ ρ1 w1 a1 m1 m2 m3 m4 m5
    | cond o x y =>
      simp only [cCode, Option.bind_eq_some_iff] at hc
      obtain ⟨o', ho, ⟨mx, h2⟩, hx, ⟨my, h3⟩, hy, hc⟩ := hc
      cases hc
      have hor := (opd_sound hs hf ho).1
      simp only [exec] at h
      refine ⟨?_, fun b keep hm => by cases hm⟩
      split at h
      · rename_i hob
        rw [hob] at hor
        exact wp_cond_true hor.bool_inv (ih _ _ _ _ h x hs0 h2 hx ρ w a Q hs hf hb hsz hQ).1
      · rename_i hob
        rw [hob] at hor
        exact wp_cond_false hor.bool_inv (ih _ _ _ _ h y h2 h3 hy ρ w a Q hs hf hb hsz hQ).1
      · simp at h
    | block id x =>
      simp only [cCode, Option.bind_eq_some_iff] at hc
      obtain ⟨⟨mx, h2⟩, hx, hc⟩ := hc
      cases hc
      simp only [exec, Option.bind_eq_some_iff] at h
      obtain ⟨⟨e1, s1⟩, h1, h⟩ := h
      refine ⟨wp_block (ih _ _ _ _ h1 x hs0 h2 hx ρ w a _ hs hf hb hsz ?_).1, fun b keep hm => by cases hm⟩
      intro ρ1 w1 a1 m1 m2 m3 m4 m5
      cases e1 with
      | normal => cases h; exact hQ ρ1 w1 a1 m1 m2 m3 m4 m5
      | ret => cases h; exact hQ ρ1 w1 a1 m1 m2 m3 m4 m5
      | exit i =>
        simp only at h
        split at h
        · rename_i hid
          cases h
          simp only [exOf, Exit.inBlock, hid, if_true]
          exact hQ ρ1 w1 a1 m1 m2 m3 m4 m5
        · rename_i hid
          cases h
          simp only [exOf, Exit.inBlock, hid, if_false]
          exact hQ ρ1 w1 a1 m1 m2 m3 m4 m5
    | loop x =>
      cases hs0 with
      | nil => simp [cCode] at hc
      | cons keep hs2 =>
        simp only [cCode, Option.bind_eq_some_iff] at hc
        obtain ⟨⟨mx, h2⟩, hx, hc⟩ := hc
        cases hc
        have hloop := h
        simp only [exec, Option.bind_eq_some_iff] at h
        obtain ⟨⟨e1, s1⟩, h1, h⟩ := h
        have hbs := exec_base n _ _ _ _ h1
        have hround : Code.rounds P x Q (n + 1) a w := by
          rw [rounds_succ]
          refine (ih _ _ _ _ h1 x hs2 h2 hx ρ w a _ hs hf hb hsz ?_).1
          intro ρ1 w1 a1 m1 m2 m3 m4 m5
          cases e1 with
          | normal =>
            simp only at h
            have hthis := (ih _ _ _ _ h (.loop x) (keep :: hs2) h2 (by simp only [cCode, hx, Option.bind_some]) ρ1 w1 a1 Q m1 m3.keep (by have := m2.len; simp only; omega) m4 ?_).2 mx keep rfl
            · obtain ⟨c0, hc0, hr⟩ := hthis
              cases hc0
              exact hr
            · intro ρ2 w2 a2 k1 k2 k3 k4 k5
              simp only [hbs.1, hbs.2] at k2
              exact hQ ρ2 w2 a2 k1 (m2.trans k2) k3 k4 (k5.trans m5)
          | exit id => cases h; exact hQ ρ1 w1 a1 m1 m2 m3 m4 m5
          | ret => cases h; exact hQ ρ1 w1 a1 m1 m2 m3 m4 m5
        exact ⟨wp_loop_rounds (n + 1) hround, fun b keep' hm => ⟨x, rfl, hround⟩⟩
    | scope x =>
      simp only [cCode, Option.bind_eq_some_iff] at hc
      obtain ⟨⟨mx, h2⟩, hx, hc⟩ := hc
      cases hc
      simp only [exec] at h
      refine ⟨wp_scope_straight (ih _ _ _ _ h x hs0 h2 hx ρ w a _ hs hf hb hsz ?_).1, fun b keep hm => by cases hm⟩
      intro ρ1 w1 a1 m1 m2 m3 m4 m5
      have := hQ ρ1 w1 a1 m1 m2 m3 m4 m5
      cases e <;> exact this
    | rangeFunc => cases hs0 <;> simp [cCode] at hc
    | goto => cases hs0 <;> simp [cCode] at hc
    | refuse => cases hs0 <;> simp [cCode] at hc
end
end Go.Av

/-
  The evaluator's calls are the model's calls.
-/
namespace Go.Av
section
variable {G : Nat → Option (List AV)} {base : Nat} {esc : Option (List Nat)} {ρ ρ' : Nat → Option Nat} {H H' : List Blk} {w w' : World} {P : Program}

theorem fget_enterFr : ∀ (args : List AV) (i t : Nat), fget (enterFr i args) t = if i ≤ t ∧ t < i + args.length then args.getD (t - i) .undef else .undef := by
  intro args
  induction args with
  | nil => intro i t; simp [enterFr, fget]
  | cons a r ih =>
    intro i t
    simp only [enterFr, fget, ih]
    by_cases h : i = t
    · subst h
      simp
    · rw [if_neg h]
      by_cases h2 : i + 1 ≤ t ∧ t < i + 1 + r.length
      · rw [if_pos h2, if_pos (by simp; omega)]
        have : t - i = (t - (i + 1)) + 1 := by omega
        rw [this]; simp [List.getD]
      · rw [if_neg h2, if_neg (by simp; omega)]

def resF (tmps : Array Value) : ResultVar → Sem Value
  | .tmp t => pure (tmps.getD t undef)
  | .cell a t => do loadVar t (← asAddr (tmps.getD a undef))

/-- The results of a call, as the evaluator has them. -/
theorem res_run {st : St} (hs : Sim G ρ st.h w) {tmps : Array Value} (hf : FrRel ρ st.h w st.fr tmps) : ∀ (rs : List ResultVar) (rv : List RV) (l : List AV), cRes P rs = some rv → getRes st rv = some l →
    ∃ vs : List Value, (rs.mapM (resF tmps)).run P w = .ok vs w ∧ vs.length = l.length ∧ (∀ (i : Nat) x v, l[i]? = some x → vs[i]? = some v → RelH ρ st.h w x v) ∧ topAll l ≤ st.h.length := by
  intro rs
  induction rs with
  | nil =>
    intro rv l h1 h2
    simp [cRes] at h1; subst h1
    simp [getRes] at h2; subst h2
    exact ⟨[], by simp, rfl, fun i x v h => by simp at h, by simp [topAll]⟩
  | cons r rest ih =>
    intro rv l h1 h2
    cases r with
    | tmp t =>
      simp only [cRes, Option.bind_eq_some_iff] at h1
      obtain ⟨rv', hrv, h1⟩ := h1
      cases h1
      simp only [getRes, Option.bind_eq_some_iff] at h2
      obtain ⟨l', hl, h2⟩ := h2
      cases h2
      obtain ⟨vs, k1, k2, k3, k4⟩ := ih rv' l' hrv hl
      refine ⟨tmps.getD t undef :: vs, by rw [List.mapM_cons]; simp only [Sem.run_bind, k1, resF, Sem.run_pure, Result.andThen_ok], by simp [k2], fun i x v hx hv => ?_, ?_⟩
      · cases i with
        | zero => simp only [List.getElem?_cons_zero, Option.some.injEq] at hx hv; subst hx; subst hv; exact (hf t).1
        | succ i => exact k3 i x v (by simpa using hx) (by simpa using hv)
      · simp only [topAll]; have := (hf t).2; omega
    | cell a t =>
      simp only [cRes, Option.bind_eq_some_iff] at h1
      obtain ⟨s, hsh, rv', hrv, h1⟩ := h1
      cases h1
      simp only [getRes, Option.bind_eq_some_iff] at h2
      obtain ⟨x0, hx0, l', hl, h2⟩ := h2
      cases h2
      obtain ⟨vs, k1, k2, k3, k4⟩ := ih rv' l' hrv hl
      obtain ⟨u, m1, m2, m3⟩ := load_sound (P := P) hs hsh (hf a).1 hx0
      have haddr : ∃ ad, tmps.getD a undef = .pointer (some ad) := by
        have hra := (hf a).1
        cases hxa : fget st.fr a with
        | mptr b off =>
          rw [hxa] at hx0 hra
          simp only [loadAV] at hx0
          split at hx0
          · rename_i ty cs hcs
            obtain ⟨β, _, h⟩ := (hra.ref_inv rfl).1 ty cs hcs
            exact ⟨_, h⟩
          · simp at hx0
        | eptr b n i off =>
          rw [hxa] at hx0 hra
          simp only [loadAV] at hx0
          split at hx0
          · rename_i g z es hes
            split at hx0
            · rename_i hn
              obtain ⟨β, _, h⟩ := ((hra.ref_inv rfl).1 g z es hes).2 hn.symm
              exact ⟨_, h⟩
            · simp at hx0
          · simp at hx0
        | iptr cs off =>
          rw [hxa] at hra
          obtain ⟨β, o, f, h, _⟩ := hra.iptr_inv
          exact ⟨_, h⟩
        | _ => rw [hxa] at hx0; simp [loadAV] at hx0
      obtain ⟨ad, had⟩ := haddr
      rw [had] at m1
      have hlv : (loadVar t ad).run P w = .ok u w := by simpa [Instr.loadAt, Instr.sureAddr] using m1
      refine ⟨u :: vs, by rw [List.mapM_cons]; simp only [Sem.run_bind, k1, resF, had, asAddr, hlv, Sem.run_pure, Result.andThen_ok], by simp [k2], fun i x v hx hv => ?_, by simp only [topAll]; omega⟩
      cases i with
      | zero => simp at hx hv; subst hx; subst hv; exact m2
      | succ i => exact k3 i x v (by simpa using hx) (by simpa using hv)

def oneV : List Value → Value
  | [v] => v
  | vs => .tuple vs.toArray

theorem results_run {st : St} (hs : Sim G ρ st.h w) {tmps : Array Value} (hf : FrRel ρ st.h w st.fr tmps) {fn : Func} {rv : List RV} {l : List AV} (h1 : cRes P fn.results.toList = some rv) (h2 : getRes st rv = some l) :
    ∃ vs : List Value, (results fn tmps).run P w = .ok (oneV vs) w ∧ vs.length = l.length ∧ (∀ (i : Nat) x v, l[i]? = some x → vs[i]? = some v → RelH ρ st.h w x v) ∧ topAll l ≤ st.h.length := by
  obtain ⟨vs, k1, k2, k3, k4⟩ := res_run (P := P) hs hf _ _ _ h1 h2
  refine ⟨vs, ?_, k2, k3, k4⟩
  have hres : results fn tmps = (do let vs ← fn.results.mapM (resF tmps); pure (if h : vs.size = 1 then vs[0] else .tuple vs)) := by
    unfold results
    congr 1
  rw [hres, Array.mapM_eq_mapM_toList]
  simp only [Sem.run_bind, Sem.run_map, k1, Result.andThen_ok, Sem.run_pure]
  match vs with
  | [] => rfl
  | [v] => rfl
  | v :: u :: r => rfl

/-- A call, by what is known of its body's ends. -/
theorem body_sound {f : FuncId} {fn : Func} {b : Code} {rs : List RV} {keep : Option (List Nat)} {m : MFunc} (hfn : P.funcs[f]? = some fn) (hb : fn.body = some b) (hrs : cRes P fn.results.toList = some rs) (hmr : m.results = rs) (hmk : m.keep = keep)
    {lim : Nat → Bool} {args : List AV} {r : AV} (hargs : fn.params.size + fn.nfree ≤ fn.ntmps) (hc1 : args.length = fn.params.size + fn.nfree) (hc2 : ((keep.map (escOf args)).getD []).all lim = true) {E : Ex → St → Prop}
    (hE : ∀ e st', E e st' → leave m H.length st' = some (r, H') ∧ (e = .normal ∨ e = .ret))
    {vs : Array Value} (hs : Sim G ρ H w) (hl : args.length = vs.size) (hr : ∀ (i : Nat) a v, args[i]? = some a → vs[i]? = some v → RelH ρ H w a v) (ht : topAll args ≤ H.length)
    (hwp : ∀ (a : Act) Q, FrRel ρ H w (enterFr 0 args) a.tmps → a.tmps.size = fn.ntmps → (∀ e st', E e st' → After G fn.ntmps ρ { fr := enterFr 0 args, base := H.length, esc := keep.map (escOf args), h := H } w a e st' Q) → b.wp P Q a w) :
    Calls P f vs w fun e w' => ∃ v ρ' esc', e = .returned v ∧ Sim G ρ' H' w' ∧ (∀ l, esc' = some l → ∀ q ∈ l, lim q = true) ∧ Step H.length esc' ρ H w ρ' H' w' ∧ RelH ρ' H' w' r v ∧ r.top ≤ H'.length := by
  refine calls_of_wp hfn hb ?_
  have hfr : FrRel ρ H w (enterFr 0 args) (vs ++ Array.replicate (fn.ntmps - vs.size) undef) := by
    intro t
    rw [fget_enterFr]
    by_cases h : t < args.length
    · rw [if_pos (by omega)]
      have hx : args[t]? = some args[t] := by simp [h]
      have hv : vs[t]? = some (vs[t]'(by omega)) := by simp
      have hg : args.getD (t - 0) .undef = args[t] := by simp [List.getD, h]
      rw [hg]
      refine ⟨?_, Nat.le_trans (top_le_topAll hx) ht⟩
      have : (vs ++ Array.replicate (fn.ntmps - vs.size) undef).getD t undef = vs[t]'(by omega) := by
        rw [Array.getD_eq_getD_getElem?, Array.getElem?_append_left (by omega), hv]; rfl
      rw [this]
      exact hr t _ _ hx hv
    · rw [if_neg (by omega)]
      exact ⟨.undef _, by simp [AV.top]⟩
  refine hwp _ _ hfr (by rw [Array.size_append, Array.size_replicate]; omega) ?_
  intro e st' hEe
  obtain ⟨hlv, he⟩ := hE e st' hEe
  intro ρ' w' a' m1 m2 m3 m4 m5
  -- the results
  simp only [leave, hmr, hmk, Option.bind_eq_some_iff] at hlv
  obtain ⟨l, hl0, hlv⟩ := hlv
  obtain ⟨us, k1, k2, k3, k4⟩ := results_run (P := P) (fn := fn) m1 m3 hrs hl0
  have hpost : ∃ v, (results fn a'.tmps).run P w' = .ok v w' ∧ ∃ v0 ρ'' esc', Ending.returned v = .returned v0 ∧ Sim G ρ'' H' w' ∧ (∀ l, esc' = some l → ∀ q ∈ l, lim q = true) ∧ Step H.length esc' ρ H w ρ'' H' w' ∧ RelH ρ'' H' w' r v0 ∧ r.top ≤ H'.length := by
    have single : ∀ (ρ'' : Nat → Option Nat) (h2 : List Blk) (l : List AV), us.length = l.length → (∀ (i : Nat) x v, l[i]? = some x → us[i]? = some v → RelH ρ'' h2 w' x v) →
        RelH ρ'' h2 w' (oneA l) (oneV us) ∧ (oneA l).top ≤ topAll l := by
      intro ρ'' h2 l hlen hrel
      match l, us, hlen with
      | [], [], _ => exact ⟨Rel.tuple (I := Imm ρ'') (R := RefRel ρ'' h2 w') (w := w') [] #[] rfl (fun i c v h => by simp at h), Nat.zero_le _⟩
      | [x], [u], _ => exact ⟨hrel 0 x u rfl rfl, by simp only [oneA, topAll]; omega⟩
      | x :: y :: r, u :: v :: q, hh => exact ⟨Rel.tuple (I := Imm ρ'') (R := RefRel ρ'' h2 w') (w := w') (x :: y :: r) (u :: v :: q).toArray (by simpa using hh.symm) (fun i c v hc hv => hrel i c v hc (by simpa using hv)), Nat.le_refl _⟩
    refine ⟨oneV us, k1, oneV us, ?_⟩
    cases hk : keep with
    | some kl =>
      rw [hk] at hlv
      simp only at hlv
      cases hlv
      obtain ⟨s1, s2⟩ := single ρ' st'.h l k2 k3
      refine ⟨ρ', keep.map (escOf args), rfl, m1, fun l' hl' q hq => ?_, m2, s1, by omega⟩
      rw [hl'] at hc2
      simp only [Option.getD_some, List.all_eq_true] at hc2
      exact hc2 q hq
    | none =>
      rw [hk] at hlv
      simp only [Option.bind_eq_some_iff] at hlv
      obtain ⟨⟨l2, h2⟩, hsol, hlv⟩ := hlv
      obtain ⟨ρ2, n1, n2, n3, n4, n5⟩ := solidAll_sound (base := H.length) (esc := none) l ρ' st'.h h2 us l2 m1 k2.symm k3 k4 hsol
      split at hlv
      · rename_i htop
        cases hlv
        have hkm : keep.map (escOf args) = none := by rw [hk]; rfl
        simp only [hkm] at m2
        have hst2 := m2.trans n2
        have hle : H.length ≤ h2.length := hst2.len
        have hcl : Closed H.length h2 := hst2.closed H.length (Nat.le_refl _) (fun l h => by simp at h) hs.tops
        have hsim := sim_take n1 H.length hle hcl
        have hlen : (h2.take H.length).length = H.length := by rw [List.length_take]; omega
        have himm : ∀ β, Imm ρ2 β → Imm (fun b => if b < H.length then ρ2 b else none) β := fun β h b hb => by
          try simp only at hb
          split at hb
          · exact h b hb
          · simp at hb
        have h00 : ∀ a v, Rel0 ρ2 w' a v → Rel0 (fun b => if b < H.length then ρ2 b else none) w' a v := fun a v h =>
          h.mono a.top (Nat.le_refl _) (fun β h1 _ => ⟨himm β h1, rfl⟩) (fun _ _ _ _ h => h)
        have href : ∀ a v, a.isRef = true → a.top ≤ H.length → RefRel ρ2 h2 w' a v → RefRel (fun b => if b < H.length then ρ2 b else none) (h2.take H.length) w' a v := fun a v q1 q2 q3 => by
          have hkb := AV.top_blk q1
          exact RefRel.of_eq q1 q3 (by rw [List.getElem?_take, if_pos (by omega)]) (by (try simp only); rw [if_pos (by omega)]) (fun _ _ => rfl) h00
        obtain ⟨s1, s2⟩ := single ρ2 h2 l2 n3.symm n4
        have htop2 : (oneA l2).top ≤ H.length := Nat.le_trans s2 htop
        refine ⟨_, none, rfl, hsim, fun l h => by simp at h, ⟨hst2.os, hst2.tape, hst2.output, hst2.size, hst2.keep, fun b β hbβ => ?_, Nat.le_of_eq hlen.symm, fun a v q1 q2 q3 => href a v q1 q2 (hst2.ref a v q1 q2 q3), fun t ht' _ hct q x hq hx => ?_⟩, s1.mono H.length htop2 (fun β h1 _ => ⟨himm β h1, rfl⟩) href, Nat.le_trans htop2 (Nat.le_of_eq hlen.symm)⟩
        · try simp only at hbβ
          split at hbβ
          · exact hst2.fresh b β hbβ
          · simp at hbβ
        · rw [List.getElem?_take] at hx
          split at hx
          · exact hst2.closed t ht' (fun l h => by simp at h) hct q x hq hx
          · simp at hx
      · simp at hlv
  obtain ⟨v, hv, hp⟩ := hpost
  rcases he with rfl | rfl
  · exact ⟨m5, v, hv, hp⟩
  · exact ⟨m5, v, hv, hp⟩

theorem callM_sound (hmix : P.follows .mixedOrders = true) {cf : CallF} (hcf : CallOk G P cf) {frz : Bool} {n : Nat} {f : FuncId} {fn : Func} {m : MFunc} {keep : Option (List Nat)} {hints : List (List Nat)} (hfn : P.funcs[f]? = some fn) (hm : cFunc P frz keep hints fn = some m) {lim : Nat → Bool} {args : List AV} {r : AV}
    (hz : callM G cf n m lim args H = some (r, H')) {vs : Array Value} (hs : Sim G ρ H w) (hl : args.length = vs.size) (hr : ∀ (i : Nat) a v, args[i]? = some a → vs[i]? = some v → RelH ρ H w a v) (ht : topAll args ≤ H.length) :
    Calls P f vs w fun e w' => ∃ v ρ' esc', e = .returned v ∧ Sim G ρ' H' w' ∧ (∀ l, esc' = some l → ∀ q ∈ l, lim q = true) ∧ Step H.length esc' ρ H w ρ' H' w' ∧ RelH ρ' H' w' r v ∧ r.top ≤ H'.length := by
  simp only [cFunc, Option.bind_eq_some_iff] at hm
  obtain ⟨b, hb, ⟨mb, hs1⟩, hcode, rs, hrs, hm⟩ := hm
  split at hm
  · rename_i hargs
    cases hm
    simp only [callM] at hz
    split at hz
    · rename_i hc
      obtain ⟨hc1, hc2⟩ := hc
      simp only [Option.bind_eq_some_iff] at hz
      obtain ⟨⟨e, st'⟩, hex, hz⟩ := hz
      have hlv : leave { ntmps := fn.ntmps, nargs := fn.params.size + fn.nfree, results := rs, body := mb, keep } H.length st' = some (r, H') ∧ (e = .normal ∨ e = .ret) := by
        cases e with
        | exit id => simp at hz
        | normal => exact ⟨hz, .inl rfl⟩
        | ret => exact ⟨hz, .inr rfl⟩
      refine body_sound hfn hb hrs (m := { ntmps := fn.ntmps, nargs := fn.params.size + fn.nfree, results := rs, body := mb, keep }) rfl rfl hargs hc1 hc2 (E := fun e1 s1 => e1 = e ∧ s1 = st') (fun e1 s1 h => by obtain ⟨rfl, rfl⟩ := h; exact hlv) hs hl hr ht ?_
      intro a Q hfr hsz hQ
      exact (exec_wp hmix (nt := fn.ntmps) hcf n mb _ e st' hex b hints hs1 hcode ρ w _ _ hs hfr (Nat.le_refl _) hsz (hQ e st' ⟨rfl, rfl⟩)).1
    · simp at hz
  · simp at hm
end
end Go.Av

/-
  An environment of compiled functions answers as the program does.
-/
namespace Go.Av
section
variable {G : Nat → Option (List AV)} {P : Program}

/-- Each function of the environment is the program's own, compiled. -/
def EnvOk (P : Program) (env : Nat → Option MFunc) : Prop :=
  ∀ f m, env f = some m → ∃ fn frz keep hints, P.funcs[f]? = some fn ∧ (fn.name == "runtime.NumGoroutine") = false ∧ fn.body.isSome = true ∧ cFunc P frz keep hints fn = some m

theorem call_ok (hmix : P.follows .mixedOrders = true) {orc : CallF} (horc : CallOk G P orc) {env : Nat → Option MFunc} (henv : EnvOk P env) : ∀ n, CallOk G P (call G orc env n) := by
  intro n
  induction n with
  | zero => intro lim f args H r H' h; simp [call] at h
  | succ n ih =>
    intro lim f args H r H' h ρ w vs hs hl hr ht
    simp only [call] at h
    cases he : env f with
    | none => rw [he] at h; exact horc lim f args H r H' h ρ w vs hs hl hr ht
    | some m =>
      rw [he] at h
      obtain ⟨fn, frz, keep, hints, h1, h2, h3, h4⟩ := henv f m he
      exact ⟨⟨fn, h1, h2, h3⟩, callM_sound hmix ih h1 h4 h hs hl hr ht⟩

/-- The environment of a list. -/
def envOf (l : List (Nat × MFunc)) (f : Nat) : Option MFunc := (l.find? (·.1 == f)).map (·.2)

theorem envOk_nil : EnvOk P (envOf []) := fun f m h => by simp [envOf] at h
theorem envOk_cons {f : Nat} {fn : Func} {frz : Bool} {keep : Option (List Nat)} {hints : List (List Nat)} {m : MFunc} {l : List (Nat × MFunc)} (h1 : P.funcs[f]? = some fn) (h2 : (fn.name == "runtime.NumGoroutine") = false) (h3 : fn.body.isSome = true) (h4 : cFunc P frz keep hints fn = some m)
    (hl : EnvOk P (envOf l)) : EnvOk P (envOf ((f, m) :: l)) := fun g m' h => by
  unfold envOf at h
  rw [List.find?_cons] at h
  split at h
  · rename_i e
    simp at e h
    subst e; subst h
    exact ⟨fn, frz, keep, hints, h1, h2, h3, h4⟩
  · exact hl g m' h

end
end Go.Av

/-
  Lines of bytes, in plain Lean.
-/
namespace Go

/-- Where a byte first stands. -/
def firstAt (c : Nat) : List Nat → Nat → Int
  | [], _ => -1
  | b :: r, i => if b = c then i else firstAt c r (i + 1)

theorem firstAt_none (c : Nat) (l : List Nat) (i : Nat) (h : ∀ j, j < l.length → l[j]? ≠ some c) : firstAt c l i = -1 := by
  induction l generalizing i with
  | nil => rfl
  | cons b r ih =>
    simp only [firstAt]
    have h0 := h 0 (by simp)
    rw [if_neg (by intro e; subst e; simp at h0)]
    exact ih (i + 1) fun j hj => by have := h (j + 1) (by simpa using hj); simpa using this
theorem firstAt_some (c : Nat) (l : List Nat) (i k : Nat) (hk : l[k]? = some c) (h : ∀ j, j < k → l[j]? ≠ some c) : firstAt c l i = i + k := by
  induction l generalizing i k with
  | nil => simp at hk
  | cons b r ih =>
    simp only [firstAt]
    cases k with
    | zero => simp at hk; rw [if_pos hk]; simp
    | succ k =>
      have h0 := h 0 (by omega)
      rw [if_neg (by intro e; subst e; simp at h0)]
      rw [ih (i + 1) k (by simpa using hk) fun j hj => by have := h (j + 1) (by omega); simpa using this]
      omega

theorem firstAt_cases (c : Nat) (l : List Nat) (i : Nat) : firstAt c l i = -1 ∨ ∃ k, k < l.length ∧ l[k]? = some c ∧ (∀ j, j < k → l[j]? ≠ some c) ∧ firstAt c l i = ((i + k : Nat) : Int) := by
  induction l generalizing i with
  | nil => exact .inl rfl
  | cons b r ih =>
    simp only [firstAt]
    by_cases h : b = c
    · rw [if_pos h]; exact .inr ⟨0, by simp, by simp [h], fun j hj => by omega, by simp⟩
    · rw [if_neg h]
      rcases ih (i + 1) with h' | ⟨k, h1, h2, h3, h4⟩
      · exact .inl h'
      · refine .inr ⟨k + 1, by simpa using h1, by simpa using h2, fun j hj => ?_, by rw [h4]; congr 1; omega⟩
        cases j with
        | zero => simpa using h
        | succ j => simpa using h3 j (by omega)

/-- The line that begins at a place. -/
def lineAt (bs : List Nat) (k b : Nat) : Nat × Nat × Nat :=
  if firstAt 10 ((bs.drop k).take (b - k)) 0 < 0 then (k, b, b)
  else (k, if 0 < (firstAt 10 ((bs.drop k).take (b - k)) 0).toNat ∧ bs[k + (firstAt 10 ((bs.drop k).take (b - k)) 0).toNat - 1]? = some 13 then k + (firstAt 10 ((bs.drop k).take (b - k)) 0).toNat - 1 else k + (firstAt 10 ((bs.drop k).take (b - k)) 0).toNat,
    k + (firstAt 10 ((bs.drop k).take (b - k)) 0).toNat + 1)

theorem lineAt_some {bs : List Nat} {k b i : Nat} (hf : firstAt 10 ((bs.drop k).take (b - k)) 0 = (i : Int)) : lineAt bs k b = (k, if 0 < i ∧ bs[k + i - 1]? = some 13 then k + i - 1 else k + i, k + i + 1) := by
  unfold lineAt
  rw [hf, if_neg (by omega)]
  rfl

def linesN : Nat → List Nat → Nat → Nat → List (Nat × Nat × Nat)
  | 0, _, _, _ => []
  | n + 1, bs, k, b => if k < b then lineAt bs k b :: linesN n bs (lineAt bs k b).2.2 b else []

theorem linesN_end (n : Nat) (bs : List Nat) (k b : Nat) (h : ¬ k < b) : linesN n bs k b = [] := by
  cases n <;> simp [linesN, h]

end Go

/-
  What is known of functions of the library, and of a few others, in place of their own texts.
-/
namespace Go.Av

/-- One line at the head of some bytes: how long it is (its end as written, what ends it). -/
def lineOf : List UInt8 → Nat → Option Nat
  | [], _ => none
  | b :: r, i => if b = 10 then some i else lineOf r (i + 1)

def lineAV (a b c : Nat) : AV := .agg [.int .i64 a, .int .i64 b, .int .i64 c]

/-- The lines of bytes that begin at a place and end at another one. -/
def linesGo : Nat → List UInt8 → Nat → Nat → List AV
  | 0, _, _, _ => []
  | _ + 1, [], _, _ => []
  | n + 1, b :: r, at_, to => match lineOf (b :: r) 0 with
    | none => [lineAV at_ to to]
    | some k => lineAV at_ (if 0 < k ∧ (b :: r)[k - 1]? = some 13 then at_ + k - 1 else at_ + k) (at_ + k + 1) :: linesGo n ((b :: r).drop (k + 1)) (at_ + k + 1) to

def linesAV (bs : List UInt8) (f t : Int) : AV :=
  if 0 ≤ f ∧ f ≤ t ∧ t ≤ (bs.length : Int) then
    (match linesGo bs.length ((bs.drop f.toNat).take (t.toNat - f.toNat)) f.toNat t.toNat with
      | [] => .nilslice
      | l => .slice false l)
  else .nilslice

structure Nums where
  index : Nat
  indexByte : Nat
  builderString : Nat
  copyCheck : Nat
  linesOf : Nat
  builder : Nat
  byte : Nat
  find : Nat
  wide : Nat × Nat
  utf : Nat × Nat

/-- A letter made small. -/
def lowB (b : UInt8) : UInt8 := if 65 ≤ b ∧ b ≤ 90 then b + 32 else b

def setAV (n : Int) (p : Nat × Nat) : AV := .agg [.int .i32 n, .func p.1 [], .func p.2 []]

/-- The charset of a name in small letters. -/
def findAV (N : Nums) (k : List UInt8) : AV :=
  if k = [117, 115, 45, 97, 115, 99, 105, 105] ∨ k = [97, 115, 99, 105, 105] then .tuple [setAV 128 N.wide, .bool true]
  else if k = [105, 115, 111, 45, 56, 56, 53, 57, 45, 49] ∨ k = [108, 97, 116, 105, 110, 49] then .tuple [setAV 256 N.wide, .bool true]
  else if k = [117, 116, 102, 45, 56] ∨ k = [117, 116, 102, 56] then .tuple [setAV 0 N.utf, .bool true]
  else .tuple [.agg [.int .i32 0, .nilfunc, .nilfunc], .bool false]

/-- What is known. -/
def orcOf (N : Nums) : CallF := fun _ f args h =>
  if f = N.index then match args with
    | [.str s, .str t] => if s.length < 4294967281 then some (.int .i64 (Lib.index s t), h) else none
    | _ => none
  else if f = N.indexByte then match args with
    | [.str s, .int .u8 c] => some (.int .i64 (Lib.indexByte s c.toNat.toUInt8), h)
    | _ => none
  else if f = N.copyCheck then match args with
    | [.mptr b 0] => match h[b]? with
      | some (.var ty [.nilptr, x]) => if ty = N.builder then some (.tuple [], h.set b (.var ty [.mptr b 0, x])) else none
      | some (.var ty [.mptr c 0, _x]) => if c = b ∧ ty = N.builder then some (.tuple [], h) else none
      | _ => none
    | _ => none
  else if f = N.builderString then match args with
    | [.mptr b 0] => match h[b]? with
      | some (.var ty [_, .nilslice]) => if ty = N.builder then some (.str [], h) else none
      | some (.var ty [_, .mslice c 0 n]) => match h[c]? with
        | some (.arr (some te) 1 es) => if ty = N.builder ∧ te = N.byte ∧ n = es.length ∧ es ≠ [] ∧ n < 4294967296 then (bytesOf es).bind fun s => if sameAll es (s.map byteAV) = true then some (.str s, h.set c (.fro 1 es)) else none else none
        | _ => none
      | _ => none
    | _ => none
  else if f = N.linesOf then match args with
    | [x, .agg [.int .i64 a, .int .i64 b]] => (elemsOf h x).bind fun es => (bytesOf es).bind fun s => if sameAll es (s.map byteAV) = true ∧ s.length < 4294967296 then some (linesAV s a b, h) else none
    | _ => none
  else if f = N.find then match args with
    | [.str s] => if s.length < 4611686018427387904 then some (findAV N (s.map lowB), h) else none
    | _ => none
  else none
end Go.Av

/-
  What is answered without a function's own text is what the function does: the frame of such a proof; functions that change nothing.
-/
namespace Go.Av
section
variable {G : Nat → Option (List AV)} {P : Program} {ρ : Nat → Option Nat} {H H' : List Blk} {w w' : World}

/-- What 'CallOk' says of one function. -/
def FnOk (G : Nat → Option (List AV)) (P : Program) (cf : CallF) (f : FuncId) : Prop :=
  ∀ lim args H r H', cf lim f args H = some (r, H') → ∀ ρ w (vs : Array Value), Sim G ρ H w → args.length = vs.size → (∀ (i : Nat) a v, args[i]? = some a → vs[i]? = some v → RelH ρ H w a v) → topAll args ≤ H.length →
    (∃ fn, P.funcs[f]? = some fn ∧ (fn.name == "runtime.NumGoroutine") = false ∧ fn.body.isSome = true) ∧
    Calls P f vs w fun e w' => ∃ v ρ' esc', e = .returned v ∧ Sim G ρ' H' w' ∧ (∀ l, esc' = some l → ∀ q ∈ l, lim q = true) ∧ Step H.length esc' ρ H w ρ' H' w' ∧ RelH ρ' H' w' r v ∧ r.top ≤ H'.length

theorem callOk_of {cf : CallF} (h : ∀ f, FnOk G P cf f) : CallOk G P cf := fun lim f => h f lim

theorem orcOf_none {N : Nums} {f : Nat} (h1 : f ≠ N.index) (h2 : f ≠ N.indexByte) (h3 : f ≠ N.copyCheck) (h4 : f ≠ N.builderString) (h5 : f ≠ N.linesOf) (h6 : f ≠ N.find) (lim : Nat → Bool) (args : List AV) (h : List Blk) : orcOf N lim f args h = none := by
  unfold orcOf
  rw [if_neg h1, if_neg h2, if_neg h3, if_neg h4, if_neg h5, if_neg h6]

/-- A function that changes nothing. -/
theorem orc_pure {f : FuncId} {vs : Array Value} {v : Value} {r : AV} {lim : Nat → Bool} (h : Calls P f vs w fun e w' => e = .returned v ∧ w' = w) (hs : Sim G ρ H w) (hr : RelH ρ H w r v) (ht : r.top ≤ H.length) :
    Calls P f vs w fun e w' => ∃ v ρ' esc', e = .returned v ∧ Sim G ρ' H w' ∧ (∀ l, esc' = some l → ∀ q ∈ l, lim q = true) ∧ Step H.length esc' ρ H w ρ' H w' ∧ RelH ρ' H w' r v ∧ r.top ≤ H.length :=
  Calls.mono h fun e w' hh => by
    obtain ⟨rfl, rfl⟩ := hh
    exact ⟨v, ρ, none, rfl, hs, fun l h => (by cases h), .refl, hr, ht⟩

/-- A laid variable's one cell. -/
theorem glob_cell (hs : Sim G ρ H w) {g : Nat} {k : IntKind} {m : Int} (hg : G g = some [.int k m]) : w.cell? ⟨g, 0, none⟩ = some (.int k m) := by
  obtain ⟨β, o, f, h, _, hc, _, hr⟩ := (hs.glob g _ hg).iptr_inv
  simp only [Value.pointer.injEq, Option.some.injEq, Addr.mk.injEq, Nat.add_zero] at h
  obtain ⟨rfl, rfl, _⟩ := h
  have h1 := hc 0 (by simp)
  have h2 := (hr 0 _ rfl).int_inv
  rw [h2] at h1
  exact h1

theorem args_two {a b : AV} {vs : Array Value} (hl : [a, b].length = vs.size) (hr : ∀ (i : Nat) x v, [a, b][i]? = some x → vs[i]? = some v → RelH ρ H w x v) : ∃ u v, vs = #[u, v] ∧ RelH ρ H w a u ∧ RelH ρ H w b v := by
  obtain ⟨l⟩ := vs
  match l, hl with
  | [u, v], _ => exact ⟨u, v, rfl, hr 0 a u rfl rfl, hr 1 b v rfl rfl⟩

theorem args_one {a : AV} {vs : Array Value} (hl : [a].length = vs.size) (hr : ∀ (i : Nat) x v, [a][i]? = some x → vs[i]? = some v → RelH ρ H w x v) : ∃ u, vs = #[u] ∧ RelH ρ H w a u := by
  obtain ⟨l⟩ := vs
  match l, hl with
  | [u], _ => exact ⟨u, rfl, hr 0 a u rfl rfl⟩

theorem index_ok {N : Nums} {g : Nat} {m : Int} (hg : G g = some [.int .i64 m]) (hfn : ∃ fn, P.funcs[N.index]? = some fn ∧ (fn.name == "runtime.NumGoroutine") = false ∧ fn.body.isSome = true)
    (hc : ∀ (s sub : ByteArray) (m : Int) (w : World), s.size < 4294967281 → w.cell? ⟨g, 0, none⟩ = some (.int .i64 m) → Calls P N.index #[.string s, .string sub] w fun e w' => e = .returned (.int .i64 (Lib.index s.data.toList sub.data.toList)) ∧ w' = w) :
    FnOk G P (orcOf N) N.index := by
  intro lim args H r H' hz ρ w vs hs hl hr ht
  refine ⟨hfn, ?_⟩
  simp only [orcOf, if_true] at hz
  split at hz
  · rename_i s t
    split at hz
    · rename_i hlen
      cases hz
      obtain ⟨u, v, rfl, h1, h2⟩ := args_two hl hr
      obtain ⟨S, rfl, hS⟩ := h1.str_inv
      obtain ⟨T, rfl, hT⟩ := h2.str_inv
      have := hc S T m w (by subst hS; exact hlen) (glob_cell hs hg)
      rw [hS, hT] at this
      exact orc_pure this hs (.int _ _) (by simp [AV.top])
    · cases hz
  · cases hz

theorem indexByte_ok {N : Nums} (hne : N.indexByte ≠ N.index) (hfn : ∃ fn, P.funcs[N.indexByte]? = some fn ∧ (fn.name == "runtime.NumGoroutine") = false ∧ fn.body.isSome = true)
    (hc : ∀ (s : ByteArray) (c : Int) (w : World), Calls P N.indexByte #[.string s, .int .u8 c] w fun e w' => e = .returned (.int .i64 (Lib.indexByte s.data.toList c.toNat.toUInt8)) ∧ w' = w) :
    FnOk G P (orcOf N) N.indexByte := by
  intro lim args H r H' hz ρ w vs hs hl hr ht
  refine ⟨hfn, ?_⟩
  simp only [orcOf, if_neg hne, if_true] at hz
  split at hz
  · rename_i s c
    cases hz
    obtain ⟨u, v, rfl, h1, h2⟩ := args_two hl hr
    obtain ⟨S, rfl, hS⟩ := h1.str_inv
    have := h2.int_inv
    subst this
    have := hc S c w
    rw [hS] at this
    exact orc_pure this hs (.int _ _) (by simp [AV.top])
  · cases hz
end
end Go.Av

/-
  What is answered without a function's own text is what the function does: a strings.Builder.
-/
namespace Go.Av
section
variable {G : Nat → Option (List AV)} {P : Program} {base : Nat} {esc : Option (List Nat)} {ρ ρ' : Nat → Option Nat} {H H' : List Blk} {w w' : World}

/-- An array is not written any more, by a mark in the model's memory. -/
theorem fro_sound (hs : Sim G ρ H w) {b s β : Nat} {g : Option Nat} {es : List AV} (hb : H[b]? = some (.arr g s es)) (ht : topAll es = 0) (hβ : ρ b = some β) {c : Array Value} {e : TypeId} {fz fz' : Nat × Nat}
    (hw : w.heap[β]? = some (.cells c e fz)) (hw' : w'.heap[β]? = some (.cells c e fz')) (hold : ∀ γ, γ ≠ β → w'.heap[γ]? = w.heap[γ]?) (hsize : w'.heap.size = w.heap.size) (ho : w'.os = w.os) (htape : w'.tape = w.tape) (hout : w'.output = w.output) :
    ∃ ρ', Sim G ρ' (H.set b (.fro s es)) w' ∧ Step base esc ρ H w ρ' (H.set b (.fro s es)) w' := by
  have hblk := hs.blk b _ hb
  have himm : ∀ γ, Imm ρ γ → Imm (fun c => if c = b then none else ρ c) γ := fun γ h c hc => by
    try simp only at hc
    split at hc
    · simp at hc
    · exact h c hc
  have hne : ∀ γ, Imm ρ γ → γ ≠ β := fun γ h e => h b (by rw [e]; exact hβ)
  have hsl : ∀ off len v, off + len = es.length → RefRel ρ H w (.mslice b off len) v → Rel0 (fun c => if c = b then none else ρ c) w' (.slice false (es.drop off)) v := by
    intro off len v hl hr
    obtain ⟨β', cap, hβ', rfl, hcap, _⟩ := (hr.1 g s es hb).2 hl
    rw [hβ] at hβ'; cases hβ'
    obtain ⟨β', c', e', fz'', h1, h2, h3, h4, h5, h6, h7, h8⟩ := hblk
    rw [hβ] at h1; cases h1
    rw [hw] at h2; cases h2
    have hi : Imm (fun c => if c = b then none else ρ c) β := fun c hc => by
      try simp only at hc
      split at hc
      · simp at hc
      · rename_i hne; exact hne (hs.inj _ _ _ hc hβ)
    refine .slice false _ _ len cap s (fun i j => (c[(off + i) * s + j]?).getD undef) (by simp; omega) hcap (by simp) (by have := topAll_drop es off; omega) (sized_sub h7 (fun e he => List.mem_of_mem_drop he)) h6 (fun _ => ⟨rfl, hi⟩) (fun i j hi' hj => ?_) (fun i el cs j x hel hcs hj => ?_)
    · have : (off + i + 1) * s ≤ es.length * s := Nat.mul_le_mul_right _ (by omega)
      rw [Nat.add_mul] at this
      have hlt : (off + i) * s + j < c.size := by omega
      simp only [World.cell?, hw', ← Nat.add_mul]
      simp [hlt]
    · rw [List.getElem?_drop] at hel
      obtain ⟨v, hv, hr⟩ := h8 (off + i) el cs j x hel hcs hj
      rw [hv]
      have hx0 : x.top = 0 := by
        have := top_le_topAll hel
        have := top_cells hcs
        have := top_le_topAll hj
        omega
      exact (hr.to0 hx0).mono x.top (Nat.le_refl _) (fun γ h _ => ⟨himm γ h, hold γ (hne γ h)⟩) (fun _ _ _ _ h => h)
  have hkeep : ∀ γ, γ < w.heap.size → ρ b ≠ some γ → w'.heap[γ]? = w.heap[γ]? := fun γ _ h => hold γ fun e => h (by rw [e]; exact hβ)
  have hstep : Step base esc ρ H w (fun c => if c = b then none else ρ c) (H.set b (.fro s es)) w' :=
    step_set hs b (.arr g s es) _ hb (fun c hc => by simp [hc]) ho htape hout (by rw [hsize]; exact Nat.le_refl _) hkeep (fun γ h => by simp at h)
      (fun _ a' v' ha' hbk hr' => by
        have hgb : (H.set b (.fro s es))[b]? = some (.fro s es) := List.getElem?_set_self (lt_of_get hb)
        cases a' with
        | mptr b' o' => simp [AV.blk] at hbk; subst hbk; intro ty cs h; rw [hgb] at h; simp at h
        | eptr b' => simp [AV.blk] at hbk; subst hbk; intro g s es h; rw [hgb] at h; simp at h
        | mslice b' off' len' =>
          simp [AV.blk] at hbk; subst hbk
          refine ⟨fun g s es h => by rw [hgb] at h; simp at h, fun s es h hl => ?_⟩
          rw [hgb] at h; cases h
          exact hsl off' len' v' hl hr'
        | map b' => simp [AV.blk] at hbk; subst hbk; intro kd m h; rw [hgb] at h; simp at h
        | iter b' => simp [AV.blk] at hbk; subst hbk; intro l' p' h; rw [hgb] at h; simp at h
        | _ => simp [AV.isRef] at ha')
      (fun _ _ _ _ h => h)
  refine ⟨_, ?_, hstep⟩
  refine sim_set hs b (.arr g s es) _ hb (fun c hc => by simp [hc]) hstep hkeep (fun γ h => by simp at h) (fun γ h => by simp at h) ?_ ?_
  · obtain ⟨_, _, _, _, _, _, _, _, _, h6, h7, _⟩ := hblk
    exact ⟨h7, h6⟩
  · show topAll es ≤ _; omega

theorem tuple0 : RelH ρ H w (.tuple []) (.tuple #[]) := Rel.tuple (I := Imm ρ) (R := RefRel ρ H w) (w := w) [] #[] rfl (fun i c v h => by simp at h)

/-- A Builder's own check: it takes down its own address. -/
theorem copyCheck_ok {N : Nums} (h1 : N.copyCheck ≠ N.index) (h2 : N.copyCheck ≠ N.indexByte) (hfn : ∃ fn, P.funcs[N.copyCheck]? = some fn ∧ (fn.name == "runtime.NumGoroutine") = false ∧ fn.body.isSome = true)
    (hused : ∀ (b : Nat) (w : World), w.cell? ⟨b, 0, none⟩ = some (.pointer (some ⟨b, 0, none⟩)) → Calls P N.copyCheck #[.pointer (some ⟨b, 0, none⟩)] w fun e w' => e = .returned (.tuple #[]) ∧ w' = w)
    (hfresh : ∀ (b : Nat) (w : World), w.cell? ⟨b, 0, none⟩ = some (.pointer none) → w.shape? b = some (N.builder, 2) → w.frozen? ⟨b, 0, none⟩ = false →
      Calls P N.copyCheck #[.pointer (some ⟨b, 0, none⟩)] w fun e w' => e = .returned (.tuple #[]) ∧ w' = w.setCell ⟨b, 0, none⟩ (.pointer (some ⟨b, 0, none⟩))) :
    FnOk G P (orcOf N) N.copyCheck := by
  intro lim args H r H' hz ρ w vs hs hl hr ht
  refine ⟨hfn, ?_⟩
  simp only [orcOf, if_neg h1, if_neg h2, if_true] at hz
  split at hz
  · rename_i b
    obtain ⟨u, rfl, hu⟩ := args_one hl hr
    split at hz
    · rename_i ty x hx
      split at hz
      · rename_i hty
        subst hty
        cases hz
        obtain ⟨β, hβ, rfl⟩ := (hu.ref_inv rfl).1 _ _ hx
        obtain ⟨β', c, k1, k2, k3, k4⟩ := hs.blk b _ hx
        rw [hβ] at k1; cases k1
        have hsz : c.size = 2 := by simpa using k3
        obtain ⟨v0, q1, q2⟩ := k4 0 .nilptr rfl
        have := q2.nilptr_inv
        subst this
        have hcell : w.cell? ⟨β, 0, none⟩ = some (.pointer none) := by simp [World.cell?, k2, q1]
        refine Calls.mono (hfresh β w hcell (by simp [World.shape?, k2, hsz]) (by simp [World.frozen?, k2])) fun e w' hh => ?_
        obtain ⟨rfl, rfl⟩ := hh
        have hlt := lt_of_get hx
        have hnew : (w.setCell ⟨β, 0, none⟩ (.pointer (some ⟨β, 0, none⟩))).heap[β]? = some (.cells (c.setIfInBounds 0 (.pointer (some ⟨β, 0, none⟩))) N.builder (0, 0)) := by
          simp [World.setCell, Array.getElem?_modify, k2]
        have hold : ∀ γ, γ ≠ β → (w.setCell ⟨β, 0, none⟩ (.pointer (some ⟨β, 0, none⟩))).heap[γ]? = w.heap[γ]? := fun γ hγ => by
          simp [World.setCell, Array.getElem?_modify, Ne.symm hγ]
        have hsize : (w.setCell ⟨β, 0, none⟩ (.pointer (some ⟨β, 0, none⟩))).heap.size = w.heap.size := by simp [World.setCell]
        have hkeep : ∀ γ, γ < w.heap.size → ρ b ≠ some γ → (w.setCell ⟨β, 0, none⟩ (.pointer (some ⟨β, 0, none⟩))).heap[γ]? = w.heap[γ]? := fun γ _ h => hold γ fun e => h (by rw [e]; exact hβ)
        have hgb : (H.set b (.var N.builder [.mptr b 0, x]))[b]? = some (.var N.builder [.mptr b 0, x]) := List.getElem?_set_self hlt
        have htop := hs.tops b _ hlt hx
        have hxt : x.top ≤ H.length := by simp only [Blk.top, topAll] at htop; omega
        have hst : Step H.length none ρ H w ρ (H.set b (.var N.builder [.mptr b 0, x])) (w.setCell ⟨β, 0, none⟩ (.pointer (some ⟨β, 0, none⟩))) :=
          step_set hs b _ _ hx (fun _ _ => rfl) rfl rfl rfl (by rw [hsize]; exact Nat.le_refl _) hkeep (fun γ h => .inl h) (fun _ => ref_var hx hgb rfl) (fun t _ _ hbt hxx => by
            simp only [Blk.top, topAll, AV.top] at hxx ⊢; omega)
        have hsim : Sim G ρ (H.set b (.var N.builder [.mptr b 0, x])) (w.setCell ⟨β, 0, none⟩ (.pointer (some ⟨β, 0, none⟩))) := by
          refine sim_set hs b _ _ hx (fun _ _ => rfl) hst hkeep (fun γ h => .inl h) (fun γ h => by rw [hsize]; exact (hs.dom _ _ h).1) ?_ (by simp only [Blk.top, topAll, AV.top]; omega)
          refine ⟨β, _, hβ, hnew, by simp [hsz], fun j y hy => ?_⟩
          match j with
          | 0 =>
            simp at hy; subst hy
            exact ⟨.pointer (some ⟨β, 0, none⟩), by simp [hsz], .ref _ _ rfl rfl fun ty cs _ => ⟨β, hβ, rfl⟩⟩
          | 1 =>
            simp at hy; subst hy
            obtain ⟨v, m1, m2⟩ := k4 1 x rfl
            refine ⟨v, ?_, hst.rel m2 hxt⟩
            rw [Array.getElem?_setIfInBounds_ne (by decide)]
            exact m1
          | n + 2 => simp at hy
        exact ⟨_, ρ, none, rfl, hsim, fun l h => (by cases h), hst, tuple0, by simp [AV.top, topAll]⟩
      · cases hz
    · rename_i ty d x hx
      split at hz
      · rename_i hc
        obtain ⟨hdb, rfl⟩ := hc
        subst hdb
        cases hz
        obtain ⟨β, hβ, rfl⟩ := (hu.ref_inv rfl).1 _ _ hx
        obtain ⟨β', c, k1, k2, k3, k4⟩ := hs.blk _ _ hx
        rw [hβ] at k1; cases k1
        obtain ⟨v0, q1, q2⟩ := k4 0 _ rfl
        obtain ⟨β2, m1, rfl⟩ := (q2.ref_inv rfl).1 _ _ hx
        rw [hβ] at m1; cases m1
        have hcell : w.cell? ⟨β, 0, none⟩ = some (.pointer (some ⟨β, 0, none⟩)) := by simp [World.cell?, k2, q1]
        exact orc_pure (hused β w hcell) hs tuple0 (by simp [AV.top, topAll])
      · cases hz
    · cases hz
  · cases hz

/-- What a Builder holds. -/
theorem builderString_ok {N : Nums} (h1 : N.builderString ≠ N.index) (h2 : N.builderString ≠ N.indexByte) (h3 : N.builderString ≠ N.copyCheck) (hfn : ∃ fn, P.funcs[N.builderString]? = some fn ∧ (fn.name == "runtime.NumGoroutine") = false ∧ fn.body.isSome = true)
    (hnil : ∀ (b : Nat) (p : Value) (w : World), w.heap[b]? = some (.cells #[p, .slice none 0 0] N.builder (0, 0)) → Calls P N.builderString #[.pointer (some ⟨b, 0, none⟩)] w fun e w' => e = .returned (.string ⟨#[]⟩) ∧ ∃ n, w' = { w with drawn := n })
    (hrow : ∀ (b : Nat) (p : Value) (g cap : Nat) (cur : Array Value) (l : List UInt8) (w : World), w.heap[b]? = some (.cells #[p, .slice (some ⟨g, 0, none⟩) l.length cap] N.builder (0, 0)) → w.heap[g]? = some (.cells cur N.byte (0, 0)) → l ≠ [] → l.length ≤ cap → cap = cur.size →
      l.length < 4294967296 → (∀ (j : Nat) x, l[j]? = some x → cur[j]? = some (.int .u8 x.toNat)) → Calls P N.builderString #[.pointer (some ⟨b, 0, none⟩)] w fun e w' => e = .returned (.string ⟨l.toArray⟩) ∧ ∃ n, w' = { w.freeze ⟨g, 0, none⟩ l.length with drawn := n }) :
    FnOk G P (orcOf N) N.builderString := by
  intro lim args H r H' hz ρ w vs hs hl hr ht
  refine ⟨hfn, ?_⟩
  simp only [orcOf, if_neg h1, if_neg h2, if_neg h3, if_true] at hz
  split at hz
  · rename_i b
    obtain ⟨u, rfl, hu⟩ := args_one hl hr
    split at hz
    · rename_i ty y hx
      split at hz
      · rename_i hty
        subst hty
        cases hz
        obtain ⟨β, hβ, rfl⟩ := (hu.ref_inv rfl).1 _ _ hx
        obtain ⟨β', c, k1, k2, k3, k4⟩ := hs.blk b _ hx
        rw [hβ] at k1; cases k1
        obtain ⟨v1, q1, q2⟩ := k4 1 _ rfl
        have := q2.nilslice_inv
        subst this
        have hc : ∃ p, c = #[p, .slice none 0 0] := by
          obtain ⟨l⟩ := c
          match l, k3, q1 with
          | [p, q], _, q1 => simp at q1; subst q1; exact ⟨p, rfl⟩
        obtain ⟨p, rfl⟩ := hc
        refine Calls.mono (hnil β p w k2) fun e w' hh => ?_
        obtain ⟨rfl, n, rfl⟩ := hh
        exact ⟨_, ρ, none, rfl, hs.drawn n, fun l h => (by cases h), Step.drawn n, .str _ _ rfl, by simp [AV.top]⟩
      · cases hz
    · rename_i ty y c n hx
      split at hz
      · rename_i te es hes
        split at hz
        · rename_i hcond
          obtain ⟨rfl, rfl, rfl, hne, hlen⟩ := hcond
          simp only [Option.bind_eq_some_iff] at hz
          obtain ⟨s, hs', hz⟩ := hz
          split at hz
          case isFalse => cases hz
          rename_i hsame
          cases hz
          have hmap := sameAll_eq _ _ hsame
          subst hmap
          obtain ⟨β, hβ, rfl⟩ := (hu.ref_inv rfl).1 _ _ hx
          obtain ⟨β', cb, k1, k2, k3, k4⟩ := hs.blk b _ hx
          rw [hβ] at k1; cases k1
          obtain ⟨v1, q1, q2⟩ := k4 1 _ rfl
          obtain ⟨g, cap, hg, rfl, hcap, hbs⟩ := ((q2.ref_inv rfl).1.1 _ _ _ hes).2 (by simp)
          obtain ⟨g', cur, e, fz, m1, m2, m3, m4, m5, m6, m7, m8⟩ := hs.blk c _ hes
          rw [hg] at m1; cases m1
          obtain ⟨rfl, rfl⟩ := m3 _ rfl
          have hc : ∃ p, cb = #[p, .slice (some ⟨g, 0, none⟩) s.length cap] := by
            obtain ⟨l⟩ := cb
            match l, k3, q1 with
            | [p, q], _, q1 => simp at q1; subst q1; exact ⟨p, rfl⟩
          obtain ⟨p, rfl⟩ := hc
          have hcs : cap = cur.size := by simp only [blockSize, m2] at hbs; omega
          have hcell : ∀ (j : Nat) x, s[j]? = some x → cur[j]? = some (.int .u8 x.toNat) := by
            intro j x hj
            obtain ⟨v, w1, w2⟩ := m8 j (byteAV x) [byteAV x] 0 (byteAV x) (by simp [hj]) rfl rfl
            have := w2.int_inv
            rw [this] at w1
            simpa using w1
          refine Calls.mono (hrow β p g cap cur s w k2 m2 (by simpa using hne) (by simpa using hcap) hcs (by simpa using hlen) hcell) fun e w' hh => ?_
          obtain ⟨rfl, n, rfl⟩ := hh
          have hn0 : s.length ≠ 0 := by simpa using hne
          obtain ⟨ρ', r1, r2⟩ := fro_sound (G := G) (base := H.length) (esc := none) (w' := { w.freeze ⟨g, 0, none⟩ s.length with drawn := n }) hs hes (topAll_bytes s) hg m2 (fz' := (0, s.length)) (by
              simp [World.freeze, hn0, Array.getElem?_modify, m2])
            (fun γ hγ => by simp [World.freeze, hn0, Array.getElem?_modify, Ne.symm hγ]) (by simp [World.freeze, hn0]) (by simp [World.freeze, hn0]) (by simp [World.freeze, hn0]) (by simp [World.freeze, hn0])
          exact ⟨_, ρ', none, rfl, r1, fun l h => (by cases h), r2, .str _ _ rfl, by simp [AV.top]⟩
        · cases hz
      · cases hz
    · cases hz
  · cases hz
end
end Go.Av

/-
  What is answered without a function's own text: lines of bytes; a world in which all that lay still lies.
-/
namespace Go.Av
open Go.RowKit
section
variable {G : Nat → Option (List AV)} {P : Program} {base : Nat} {esc : Option (List Nat)} {ρ : Nat → Option Nat} {H : List Blk} {w w' : World}

theorem step_below (hs : Sim G ρ H w) (h : Below w.heap.size w w') : Step base esc ρ H w ρ H w' :=
  ⟨h.os, h.tape, h.output, h.size, fun β _ hlt => h.block β hlt, fun b _β hb => .inl ⟨b, hb⟩, Nat.le_refl _,
    fun _a _v hr _ hv => RefRel.of_eq hr hv rfl rfl (fun β hβ => blockSize_eq (h.block β (hs.dom _ _ hβ).1)) (fun _a _v h0 => rel0_evo (fun β _ hlt => h.block β hlt) (fun b _β hb => .inl ⟨b, hb⟩) h0),
    fun _t _ _ hc => hc⟩

theorem sim_below (hs : Sim G ρ H w) (h : Below w.heap.size w w') : Sim G ρ H w' := by
  have hst := step_below (base := 0) (esc := none) hs h
  have hrel : ∀ {b : Nat} {x : Blk} {a : AV} {v : Value}, H[b]? = some x → a.top ≤ H.length → RelH ρ H w a v → RelH ρ H w' a v := fun _ ht hr => hst.rel hr ht
  refine ⟨hs.inj, fun b β hb => ⟨Nat.lt_of_lt_of_le (hs.dom b β hb).1 h.size, (hs.dom b β hb).2⟩, fun b x hx => ?_, hs.tops, fun g cs hg => hst.rel0 (hs.glob g cs hg)⟩
  have hb := hs.blk b x hx
  have htop : x.top ≤ H.length := hs.tops b x (lt_of_get hx) hx
  cases x with
  | var ty cs =>
    obtain ⟨β, c, h1, h2, h3, h4⟩ := hb
    exact ⟨β, c, h1, (h.block β (hs.dom _ _ h1).1).trans h2, h3, fun j x hj => by
      obtain ⟨v, hv, hr⟩ := h4 j x hj
      exact ⟨v, hv, hrel hx (by have := top_le_topAll hj; simp only [Blk.top] at htop; omega) hr⟩⟩
  | arr g s es =>
    obtain ⟨β, c, e, fz, h1, h2, h3, h4, h5, h6, h7, h8⟩ := hb
    exact ⟨β, c, e, fz, h1, (h.block β (hs.dom _ _ h1).1).trans h2, h3, h4, h5, h6, h7, fun i el cs j x hel hcs hj => by
      obtain ⟨v, hv, hr⟩ := h8 i el cs j x hel hcs hj
      exact ⟨v, hv, hrel hx (by have := top_le_topAll hel; have := top_cells hcs; have := top_le_topAll hj; simp only [Blk.top] at htop; omega) hr⟩⟩
  | fro s es => exact hb
  | siter s pos =>
    obtain ⟨β, S, h1, h2, h3⟩ := hb
    exact ⟨β, S, h1, h2, (h.block β (hs.dom _ _ h1).1).trans h3⟩
  | map kd m =>
    obtain ⟨β, es, c, h1, h2, h3⟩ := hb
    exact ⟨β, es, c, h1, (h.block β (hs.dom _ _ h1).1).trans h2, h3.mono fun p hp v hv => hrel hx (Nat.le_trans (top_map hp) htop) hv⟩
end

def lineA (x : Nat × Nat × Nat) : AV := lineAV x.1 x.2.1 x.2.2

theorem lineOf_first (l : List UInt8) (i : Nat) : firstAt 10 (l.map UInt8.toNat) i = match lineOf l i with
    | none => -1
    | some k => (k : Int) := by
  induction l generalizing i with
  | nil => rfl
  | cons b r ih =>
    simp only [List.map_cons, firstAt, lineOf]
    by_cases h : b = 10
    · subst h; simp
    · rw [if_neg h, if_neg (fun e => h (UInt8.toNat.inj (by simpa using e)))]
      exact ih (i + 1)

theorem lineOf_some {l : List UInt8} {i k : Nat} (h : lineOf l i = some k) : i ≤ k ∧ k < i + l.length := by
  induction l generalizing i with
  | nil => simp [lineOf] at h
  | cons b r ih =>
    simp only [lineOf] at h
    split at h
    · simp at h; subst h; simp
    · have := ih h; simp; omega

theorem linesGo_eq (s : List UInt8) (b : Nat) (hb : b ≤ s.length) : ∀ (n m k : Nat), b - k ≤ n → b - k ≤ m → linesGo n ((s.drop k).take (b - k)) k b = (linesN m (s.map UInt8.toNat) k b).map lineA := by
  intro n
  induction n with
  | zero =>
    intro m k hn hm
    rw [linesN_end _ _ _ _ (by omega)]
    simp [linesGo]
  | succ n ih =>
    intro m k hn hm
    by_cases hlt : k < b
    · obtain ⟨m, rfl⟩ : ∃ m', m = m' + 1 := ⟨m - 1, by omega⟩
      obtain ⟨x, r, hxr⟩ : ∃ x r, (s.drop k).take (b - k) = x :: r := by
        cases h : (s.drop k).take (b - k) with
        | nil => have := congrArg List.length h; simp at this; omega
        | cons x r => exact ⟨x, r, rfl⟩
      have hf := lineOf_first ((s.drop k).take (b - k)) 0
      rw [List.map_take, List.map_drop] at hf
      have hlen : ((s.drop k).take (b - k)).length = b - k := by simp; omega
      simp only [linesN, if_pos hlt]
      rw [hxr]
      simp only [linesGo]
      rw [← hxr]
      cases hl : lineOf ((s.drop k).take (b - k)) 0 with
      | none =>
        rw [hl] at hf
        have hla : lineAt (s.map UInt8.toNat) k b = (k, b, b) := by unfold lineAt; rw [hf]; rfl
        rw [hla]
        simp [linesN_end m _ b b (by omega), lineA]
      | some i =>
        rw [hl] at hf
        have hi := lineOf_some hl
        have hla := lineAt_some hf
        rw [hla]
        simp only [List.map_cons, List.cons.injEq]
        have hget : ∀ j, j < b - k → ((s.drop k).take (b - k))[j]? = s[k + j]? := fun j hj => by simp [hj]
        refine ⟨?_, ?_⟩
        · unfold lineA
          by_cases h0 : 0 < i
          · rw [hget (i - 1) (by omega)]
            have e : k + (i - 1) = k + i - 1 := by omega
            rw [e]
            have : (s[k + i - 1]? = some 13) ↔ ((s.map UInt8.toNat)[k + i - 1]? = some 13) := by
              rw [List.getElem?_map]
              cases s[k + i - 1]? with
              | none => simp
              | some x => simp; exact ⟨fun h => by rw [h]; rfl, fun h => UInt8.toNat.inj (by simpa using h)⟩
            by_cases h13 : s[k + i - 1]? = some 13
            · rw [if_pos ⟨h0, h13⟩, if_pos ⟨h0, this.1 h13⟩]
            · rw [if_neg (fun h => h13 h.2), if_neg (fun h => h13 (this.2 h.2))]
          · rw [if_neg (fun h => h0 h.1), if_neg (fun h => h0 h.1)]
        · have hd : ((s.drop k).take (b - k)).drop (i + 1) = (s.drop (k + i + 1)).take (b - (k + i + 1)) := by
            rw [List.drop_take, List.drop_drop]
            congr 1 <;> omega
          rw [hd]
          have := ih m (k + i + 1) (by omega) (by omega)
          exact this
    · rw [linesN_end _ _ _ _ hlt]
      have : b - k = 0 := by omega
      rw [this]
      simp [linesGo]

theorem linesAV_yes (s : List UInt8) (a b : Nat) (hab : a ≤ b) (hb : b ≤ s.length) : linesAV s a b = match (linesN (b - a) (s.map UInt8.toNat) a b).map lineA with
    | [] => .nilslice
    | l => .slice false l := by
  unfold linesAV
  rw [if_pos ⟨by omega, by omega, by omega⟩]
  simp only [Int.toNat_natCast]
  rw [linesGo_eq s b hb s.length (b - a) a (by omega) (Nat.le_refl _)]
  all_goals (cases List.map lineA (linesN (b - a) (List.map UInt8.toNat s) a b) <;> rfl)
theorem linesAV_no (s : List UInt8) (a b : Int) (h : ¬ (0 ≤ a ∧ a ≤ b ∧ b ≤ (s.length : Int))) : linesAV s a b = .nilslice := by
  unfold linesAV
  rw [if_neg h]
end Go.Av

/-
  The evaluator, step by step: equations for a walk by hand.
-/
namespace Go.Av
variable {G : Nat → Option (List AV)} {cf : CallF}

theorem exec_skip (n : Nat) (st : St) : exec G cf (n + 1) .skip st = some (.normal, st) := rfl
theorem exec_ops (n : Nat) (l : List MInstr) (keep : List Nat) (st : St) : exec G cf (n + 1) (.ops l keep) st = (runOps G cf l st).bind fun st' => some (.normal, { st' with fr := fkeep st'.fr keep }) := rfl
theorem exec_draw (n : Nat) (l : List DInstr) (ex : List (Nat × List Nat × List Nat)) (keep : List Nat) (st : St) : exec G cf (n + 1) (.draw l ex keep) st =
    (runText G cf l [([], st.h)] st).bind fun p => (runExtra G cf l p.1 ex p.2).bind fun _ => some (.normal, { p.1 with fr := fkeep p.1.fr keep }) := rfl
theorem exec_seq (n : Nat) (a b : M) (st : St) : exec G cf (n + 1) (.seq a b) st = (exec G cf n a st).bind fun p => match p.1 with
      | .normal => exec G cf n b p.2
      | _ => some p := rfl
theorem seq_step {n : Nat} {a b : M} {st st' : St} (h : exec G cf n a st = some (.normal, st')) : exec G cf (n + 1) (.seq a b) st = exec G cf n b st' := by rw [exec_seq, h]; rfl
theorem exec_cond (n : Nat) (c : Opd) (a b : M) (st : St) : exec G cf (n + 1) (.cond c a b) st = match c.get G st.fr with
      | .bool true => exec G cf n a st
      | .bool false => exec G cf n b st
      | _ => none := rfl
theorem exec_block (n : Nat) (id : Nat) (b : M) (st : St) : exec G cf (n + 1) (.block id b) st = (exec G cf n b st).bind fun p => match p.1 with
      | .exit i => if i = id then some (.normal, p.2) else some p
      | _ => some p := rfl
theorem exec_loop (n : Nat) (keep : List Nat) (b : M) (st : St) : exec G cf (n + 1) (.loop keep b) st = (exec G cf n b st).bind fun p => match p.1 with
      | .normal => exec G cf n (.loop keep b) { p.2 with fr := fkeep p.2.fr keep }
      | _ => some p := rfl
theorem exec_exit (n : Nat) (id : Nat) (st : St) : exec G cf (n + 1) (.exit id) st = some (.exit id, st) := rfl
theorem exec_scope (n : Nat) (b : M) (st : St) : exec G cf (n + 1) (.scope b) st = exec G cf n b st := rfl
theorem exec_ret (n : Nat) (st : St) : exec G cf (n + 1) .ret st = some (.ret, st) := rfl
def M.fst : M → M
  | .seq a _ => a
  | m => m
def M.snd : M → M
  | .seq _ b => b
  | m => m
/-- Some pieces, one behind the other. -/
def upto (G : Nat → Option (List AV)) (cf : CallF) : Nat → Nat → M → St → Option (Nat × M × St)
  | 0, n, m, st => some (n, m, st)
  | i + 1, n + 1, .seq a b, st => match exec G cf n a st with
    | some (.normal, s) => upto G cf i n b s
    | _ => none
  | _ + 1, _, _, _ => none
theorem upto_eq : ∀ (i n : Nat) (m : M) (st : St) (n' : Nat) (m' : M) (st' : St), upto G cf i n m st = some (n', m', st') → exec G cf n m st = exec G cf n' m' st'
  | 0, n, m, st, n', m', st', h => by simp [upto] at h; obtain ⟨rfl, rfl, rfl⟩ := h; rfl
  | i + 1, n + 1, .seq a b, st, n', m', st', h => by
    simp only [upto] at h
    split at h
    · rename_i s hs
      rw [seq_step hs]
      exact upto_eq i n b s n' m' st' h
    · cases h
  | _ + 1, 0, _, _, _, _, _, h => by simp [upto] at h
  | _ + 1, _ + 1, .skip, _, _, _, _, h => by simp [upto] at h
  | _ + 1, _ + 1, .ops _ _, _, _, _, _, h => by simp [upto] at h
  | _ + 1, _ + 1, .draw _ _ _, _, _, _, _, h => by simp [upto] at h
  | _ + 1, _ + 1, .cond _ _ _, _, _, _, _, h => by simp [upto] at h
  | _ + 1, _ + 1, .block _ _, _, _, _, _, h => by simp [upto] at h
  | _ + 1, _ + 1, .loop _ _, _, _, _, _, h => by simp [upto] at h
  | _ + 1, _ + 1, .exit _, _, _, _, _, h => by simp [upto] at h
  | _ + 1, _ + 1, .scope _, _, _, _, _, h => by simp [upto] at h
  | _ + 1, _ + 1, .ret, _, _, _, _, h => by simp [upto] at h

def sameFr : List (Nat × AV) → List (Nat × AV) → Bool
  | [], [] => true
  | a :: r, b :: q => a.1 == b.1 && AV.same a.2 b.2 && sameFr r q
  | _, _ => false
theorem callM_value {n : Nat} {m : MFunc} {lim : Nat → Bool} {args : List AV} {h : List Blk} (hk : m.keep = none) (hl : args.length = m.nargs) : callM G cf n m lim args h =
    (exec G cf n m.body { fr := enterFr 0 args, base := h.length, esc := none, h := h }).bind fun p => match p.1 with
      | .exit _ => none
      | _ => leave m h.length p.2 := by
  simp [callM, hk, hl]
  rfl
theorem call_own {orc : CallF} {env : Nat → Option MFunc} {f : Nat} {m : MFunc} (he : env f = some m) (n : Nat) (lim : Nat → Bool) (args : List AV) (h : List Blk) : call G orc env (n + 1) lim f args h = callM G (call G orc env n) (n + 1) m lim args h := by
  simp [call, he]
theorem sameFr_eq : ∀ (a b : List (Nat × AV)), sameFr a b = true → a = b
  | [], [], _ => rfl
  | (x, u) :: r, (y, v) :: q, h => by
    simp [sameFr] at h
    obtain ⟨⟨rfl, h2⟩, h3⟩ := h
    rw [AV.same_eq _ _ h2, sameFr_eq r q h3]
  | [], _ :: _, h => by simp [sameFr] at h
  | _ :: _, [], h => by simp [sameFr] at h
/-- Is a run's end a given state? -/
def endsAt (r : Option (Ex × St)) (st : St) : Bool := match r with
  | some (.normal, s) => sameFr s.fr st.fr && s.base == st.base && decide (s.esc = st.esc) && sameH s.h st.h
  | _ => false
theorem endsAt_eq {r : Option (Ex × St)} {st : St} (h : endsAt r st = true) : r = some (.normal, st) := by
  unfold endsAt at h
  split at h
  · rename_i s
    simp at h
    obtain ⟨⟨⟨h1, h2⟩, h3⟩, h4⟩ := h
    cases s; cases st
    simp only at h1 h2 h3 h4
    rw [sameFr_eq _ _ h1, h2, h3, sameH_eq _ _ h4]
  · cases h
end Go.Av

/-
  A call that is known in empty memory is known in any, where neither its arguments nor its result lead to memory.
-/
namespace Go.Av
open Go.RowKit
section
variable {G : Nat → Option (List AV)} {P : Program} {ρ : Nat → Option Nat} {H : List Blk} {w w' : World}

mutual
/-- A value that leads to no memory. -/
def AV.flat : AV → Bool
  | .iptr _ _ => false
  | .slice _ _ => false
  | .mptr _ _ => false
  | .eptr _ _ _ _ => false
  | .mslice _ _ _ => false
  | .map _ => false
  | .iter _ => false
  | .agg cs => flatAll cs
  | .tuple cs => flatAll cs
  | .func _ cs => flatAll cs
  | _ => true
def flatAll : List AV → Bool
  | [] => true
  | v :: r => AV.flat v && flatAll r
end

theorem flatAll_get {l : List AV} {i : Nat} {a : AV} (h : flatAll l = true) (hi : l[i]? = some a) : a.flat = true := by
  induction l generalizing i with
  | nil => simp at hi
  | cons x r ih =>
    simp [flatAll] at h
    cases i with
    | zero => simp at hi; subst hi; exact h.1
    | succ i => exact ih h.2 (by simpa using hi)

theorem flat_top : ∀ (a : AV), a.flat = true → a.top = 0
  | .agg cs, h => by simp [AV.flat] at h; simp [AV.top]; exact flatAll_top cs h
  | .tuple cs, h => by simp [AV.flat] at h; simp [AV.top]; exact flatAll_top cs h
  | .func _ cs, h => by simp [AV.flat] at h; simp [AV.top]; exact flatAll_top cs h
  | .iptr _ _, h => by simp [AV.flat] at h
  | .slice _ _, h => by simp [AV.flat] at h
  | .mptr _ _, h => by simp [AV.flat] at h
  | .eptr _ _ _ _, h => by simp [AV.flat] at h
  | .mslice _ _ _, h => by simp [AV.flat] at h
  | .map _, h => by simp [AV.flat] at h
  | .iter _, h => by simp [AV.flat] at h
  | .undef, _ => rfl
  | .bool _, _ => rfl
  | .int _ _, _ => rfl
  | .str _, _ => rfl
  | .nilptr, _ => rfl
  | .nilslice, _ => rfl
  | .nilfunc, _ => rfl
  | .nilmap, _ => rfl
  | .nilif, _ => rfl
where flatAll_top : ∀ (l : List AV), flatAll l = true → topAll l = 0
  | [], _ => rfl
  | v :: r, h => by
    simp [flatAll] at h
    simp only [topAll, flat_top v h.1, flatAll_top r h.2]
    rfl

theorem Rel.flat {I I' : Nat → Prop} {R R' : AV → Value → Prop} {a : AV} {v : Value} (h : Rel I R w a v) (hf : a.flat = true) : Rel I' R' w' a v := by
  induction h with
  | undef v => exact .undef v
  | bool b => exact .bool b
  | int k n => exact .int k n
  | str s l h => exact .str s l h
  | nilptr => exact .nilptr
  | nilslice => exact .nilslice
  | nilfunc => exact .nilfunc
  | nilmap => exact .nilmap
  | nilif => exact .nilif
  | ref a v h ho hr => cases a <;> simp [AV.isRef] at h <;> simp [AV.flat] at hf
  | iptr cs off β o f hi hc ht hr ih => simp [AV.flat] at hf
  | slice x es a len cap s f hl hcap hx ht hs hsp hi hc hr ih => simp [AV.flat] at hf
  | agg cs vs hl hr ih => exact .agg cs vs hl fun i c v h1 h2 => ih i c v h1 h2 (flatAll_get (by simpa [AV.flat] using hf) h1)
  | tuple cs vs hl hr ih => exact .tuple cs vs hl fun i c v h1 h2 => ih i c v h1 h2 (flatAll_get (by simpa [AV.flat] using hf) h1)
  | func f cs vs hl hr ih => exact .func f cs vs hl fun i c v h1 h2 => ih i c v h1 h2 (flatAll_get (by simpa [AV.flat] using hf) h1)

/-- What is known in empty memory holds in any. -/
theorem fnOk_flat {cf orc : CallF} (hcf : CallOk G P cf) {f : Nat} (h : ∀ lim args H r H', orc lim f args H = some (r, H') → topAll args = 0 ∧ r.flat = true ∧ H' = H ∧ cf (fun _ => true) f args [] = some (r, [])) : FnOk G P orc f := by
  intro lim args H r H' hz ρ w vs hs hl hr ht
  obtain ⟨h0, hflat, rfl, hrun⟩ := h lim args H r H' hz
  have hs0 : Sim G (fun _ => none) [] w := by
    refine ⟨fun b b' β h => (by cases h), fun b β h => (by cases h), fun b x hx => (by simp at hx), fun q x hq => (by simp at hq), fun g cs hg => ?_⟩
    exact (hs.glob g cs hg).mono _ (Nat.le_refl _) (fun β _ _ => ⟨fun b hb => (by cases hb), rfl⟩) (fun _ _ _ _ h => h)
  have hr0 : ∀ (i : Nat) a v, args[i]? = some a → vs[i]? = some v → RelH (fun _ => none) [] w a v := fun i a v ha hv => by
    refine (hr i a v ha hv).mono 0 (by have := top_le_topAll ha; omega) (fun β _ _ => ⟨fun b hb => (by cases hb), rfl⟩) (fun a v hi ht _ => ?_)
    have := AV.top_blk hi; omega
  obtain ⟨hfn, hc⟩ := hcf (fun _ => true) f args [] r [] hrun (fun _ => none) w vs hs0 hl hr0 (by omega)
  refine ⟨hfn, hc.mono ?_⟩
  rintro e w' ⟨v, ρ', esc', rfl, hs', _, hst, hrv, _⟩
  have hρ' : ∀ b, ρ' b = none := fun b => by
    cases hb : ρ' b with
    | none => rfl
    | some β => have := (hs'.dom b β hb).2; simp at this
  have hB : Below w.heap.size w w' := ⟨hst.os, hst.tape, hst.output, hst.size, fun k hk => hst.keep k (fun b hb => (by cases hb)) hk⟩
  exact ⟨v, ρ, none, rfl, sim_below hs hB, fun l h => (by cases h), step_below hs hB, hrv.flat hflat, by rw [flat_top _ hflat]; exact Nat.zero_le _⟩
end

/-- One call more is answered. -/
def orcPlus (orc : CallF) (f : Nat) (args : List AV) (r : AV) : CallF := fun lim g as h => if g = f then (if sameAll as args = true then some (r, h) else none) else orc lim g as h

theorem orcPlus_ok {G : Nat → Option (List AV)} {P : Program} {orc cf : CallF} (ho : CallOk G P orc) (hcf : CallOk G P cf) {f : Nat} {args : List AV} {r : AV} (h0 : topAll args = 0) (hr : r.flat = true) (h : cf (fun _ => true) f args [] = some (r, [])) : CallOk G P (orcPlus orc f args r) := by
  refine callOk_of fun (g : Nat) => ?_
  by_cases hg : g = f
  · subst hg
    refine fnOk_flat hcf fun lim as H r' H' hz => ?_
    simp only [orcPlus, if_true] at hz
    split at hz
    · rename_i hs
      cases hz
      have := sameAll_eq _ _ hs
      subst this
      exact ⟨h0, hr, rfl, h⟩
    · cases hz
  · intro lim as H r' H' hz
    simp only [orcPlus, if_neg hg] at hz
    exact ho lim g as H r' H' hz
end Go.Av

/-
  Functions that are answered by what they compute.
-/
namespace Go.Av
variable {G : Nat → Option (List AV)} {P : Program}

/-- A function more that is answered, by what it computes. -/
def orcAdd (orc : CallF) (f : Nat) (spec : List AV → Option AV) : CallF := fun lim g as h => if g = f then (spec as).bind fun r => some (r, h) else orc lim g as h

theorem orcAdd_ok {orc : CallF} {f : Nat} {spec : List AV → Option AV} (ho : CallOk G P orc) (hcf : ∀ as r, spec as = some r → topAll as = 0 ∧ r.flat = true ∧ ∃ cf, CallOk G P cf ∧ cf (fun _ => true) f as [] = some (r, [])) : CallOk G P (orcAdd orc f spec) := by
  refine callOk_of fun (g : Nat) => ?_
  by_cases hg : g = f
  · subst hg
    intro lim as H r' H' hz
    simp only [orcAdd, if_true, Option.bind_eq_some_iff] at hz
    obtain ⟨r, hr, hz⟩ := hz
    cases hz
    obtain ⟨h0, hf, cf, hc, hrun⟩ := hcf as r' hr
    exact fnOk_flat (orc := fun lim g bs h => if sameAll bs as = true then some (r', h) else none) hc (fun lim bs H2 r2 H2' hz2 => by
      split at hz2
      · rename_i hs
        cases hz2
        have := sameAll_eq _ _ hs
        subst this
        exact ⟨h0, hf, rfl, hrun⟩
      · cases hz2) lim as H r' H (by simp only [sameAll_refl, if_true])
  · intro lim as H r' H' hz
    simp only [orcAdd, if_neg hg] at hz
    exact ho lim g as H r' H' hz
end Go.Av
