/-
  What chars.Lower and chars.Fold compute: a letter, a text made small.
-/
import Derived.Test.YtnnclgadfbaldaaGreatDoorAvSeat0
import Derived.Test.YtnnclgadfbaldaaGreatDoorAvD
import Derived.KernelRfl
namespace Go.Proofs.YtnnclgadfbaldaaGreatDoor
open Go Go.Av
variable {G : Nat → Option (List AV)} {orc : CallF} {env : Nat → Option MFunc}

theorem wrap_i64 {n : Int} (h0 : -9223372036854775808 ≤ n) (h1 : n < 9223372036854775808) : IntKind.i64.wrap n = n := by
  simp only [IntKind.wrap, IntKind.bits, IntKind.signed]
  simp
  omega

def low (x : Int) : Int := if 65 ≤ x ∧ x ≤ 90 then IntKind.u8.wrap (IntKind.u8.wrap (x - 65) + 97) else x

theorem low_byte : ∀ b : UInt8, low (b.toNat : Int) = ((lowB b).toNat : Int) := by
  intro b
  obtain ⟨⟨n⟩⟩ := b
  revert n
  unfold low
  decide +kernel

set_option maxRecDepth 10000 in
theorem lower_run (he : env 71 = some m71) (x : Int) (h : List Blk) (n : Nat) (lim : Nat → Bool) : call G orc env (n + 20) lim 71 [.int .u8 x] h = some (.int .u8 (low x), h) := by
  by_cases h1 : 65 ≤ x <;> by_cases h2 : x ≤ 90 <;>
  simp [low, call, he, callM, m71, enterFr, exec, runOps, stepOp, Opd.get, fget, fset, fkeep, St.put, binAV, binInt, h1, h2, leave, getRes, solidAll, solid, oneA, topAll, AV.top]

def foldBody : M := match m34.body with
  | .seq _ (.seq _ (.seq (.seq _ (.block _ (.loop _ b))) _)) => b
  | _ => .skip
theorem set_last {α : Type} (H : List α) (x y : α) : (H ++ [x]).set H.length y = H ++ [y] := by
  rw [List.set_append_right _ _ (Nat.le_refl _)]; simp

def foldSt (H : List Blk) (i : Nat) (es : List AV) : St := ⟨[(9, .int .i64 i), (8, .int .i64 es.length), (3, .mslice H.length 0 es.length)], H.length, none, H ++ [.arr none 1 es]⟩

set_option maxRecDepth 10000 in
theorem fold_step {cf : CallF} (h71 : ∀ lim (x : Int) h, cf lim 71 [.int .u8 x] h = some (.int .u8 (low x), h)) (H : List Blk) (es : List AV) (i : Nat) (x : Int) (hi : i < es.length) (hx : es[i] = .int .u8 x) (hb : es.length < 4611686018427387904) (k : Nat) :
    exec G cf (k + 12) foldBody (foldSt H i es) = some (.normal, foldSt H (i + 1) (es.set i (.int .u8 (low x)))) := by
  have hw : IntKind.i64.wrap ((i : Int) + 1) = (i : Int) + 1 := wrap_i64 (by omega) (by omega)
  have hlt : (i : Int) < (es.length : Int) := by omega
  have hn : (0 : Int) ≤ (i : Int) := by omega
  simp [foldSt, foldBody, m34, exec, runOps, stepOp, Opd.get, fget, fset, fkeep, St.put, binAV, binInt, hlt, hn, hw, getInt, idxOf, loadAV, hi, hx, AV.cells, takeCells, storeAV, storeInto, h71, getAll, solidAll, solid, mayLay, isCell, topAll, AV.top]

theorem fold_end {cf : CallF} (H : List Blk) (es : List AV) (k : Nat) :
    exec G cf (k + 12) foldBody (foldSt H es.length es) = some (.exit 0, ⟨[(10, .bool false), (9, .int .i64 es.length), (3, .mslice H.length 0 es.length), (8, .int .i64 es.length)], H.length, none, H ++ [.arr none 1 es]⟩) := by
  simp [foldSt, foldBody, m34, exec, runOps, stepOp, Opd.get, fget, fset, fkeep, St.put, binAV, binInt]

def ints (xs : List Int) : List AV := xs.map (AV.int .u8)

theorem fold_loop {cf : CallF} (h71 : ∀ lim (x : Int) h, cf lim 71 [.int .u8 x] h = some (.int .u8 (low x), h)) (H : List Blk) (xs : List Int) (hb : xs.length < 4611686018427387904) :
    ∀ (d i : Nat), i + d = xs.length → ∀ N, exec G cf (N + d + 13) (.loop [9, 8, 3] foldBody) (foldSt H i (ints ((xs.take i).map low ++ xs.drop i))) =
      some (.exit 0, ⟨[(10, .bool false), (9, .int .i64 xs.length), (3, .mslice H.length 0 xs.length), (8, .int .i64 xs.length)], H.length, none, H ++ [.arr none 1 (ints (xs.map low))]⟩) := by
  intro d
  induction d with
  | zero =>
    intro i hi N
    have hi : i = xs.length := by omega
    subst hi
    have hl : (ints (xs.map low)).length = xs.length := by simp [ints]
    have := fold_end (G := G) (cf := cf) H (ints (xs.map low)) N
    rw [hl] at this
    simp only [Nat.add_zero, List.take_length, List.drop_length, List.append_nil]
    rw [exec_loop, this]
    rfl
  | succ d ih =>
    intro i hi N
    have hlt : i < xs.length := by omega
    have hlen : (ints ((xs.take i).map low ++ xs.drop i)).length = xs.length := by simp [ints]; omega
    have hx : (ints ((xs.take i).map low ++ xs.drop i))[i]'(by omega) = .int .u8 xs[i] := by
      simp only [ints, List.getElem_map]
      rw [List.getElem_append_right (by simp; omega)]
      simp [Nat.min_eq_left (Nat.le_of_lt hlt)]
    have hs := fold_step (G := G) h71 H (ints ((xs.take i).map low ++ xs.drop i)) i xs[i] (by omega) hx (by omega) (N + d + 1)
    have hset : (ints ((xs.take i).map low ++ xs.drop i)).set i (.int .u8 (low xs[i])) = ints ((xs.take (i + 1)).map low ++ xs.drop (i + 1)) := by
      rw [List.drop_eq_getElem_cons hlt, List.take_succ_eq_append_getElem hlt]
      have hli : (ints ((xs.take i).map low)).length = i := by simp [ints]; omega
      simp only [ints, List.map_append, List.map_cons, List.map_nil, List.append_assoc, List.singleton_append] at hli ⊢
      rw [List.set_append_right _ _ (by rw [hli]; exact Nat.le_refl _), hli]
      simp
    rw [hset] at hs
    have e : N + (d + 1) + 13 = (N + d + 1 + 12) + 1 := by omega
    rw [e]
    rw [exec_loop, hs]
    have := ih (i + 1) (by omega) N
    have e2 : N + d + 1 + 12 = N + d + 13 := by omega
    simp only [Option.bind_some]
    rw [e2]
    refine Eq.trans ?_ this
    rfl

set_option maxRecDepth 10000 in
theorem fold_run (h34 : env 34 = some m34) (h71 : env 71 = some m71) (s : List UInt8) (hb : s.length < 4611686018427387904) (h : List Blk) (n : Nat) (lim : Nat → Bool) :
    call G orc env (n + s.length + 40) lim 34 [.str s] h = some (.str (s.map lowB), h) := by
  have hcf : ∀ lim (x : Int) h, call G orc env (n + s.length + 39) lim 71 [.int .u8 x] h = some (.int .u8 (low x), h) := fun lim x h => by
    have := lower_run (G := G) (orc := orc) h71 x h (n + s.length + 19) lim
    exact this
  have hs : s.map byteAV = ints (s.map fun b => (b.toNat : Int)) := by simp [ints, byteAV]
  have hl := fold_loop (G := G) (cf := call G orc env (n + s.length + 39)) hcf h (s.map fun b => (b.toNat : Int)) (by simpa using hb) s.length 0 (by simp) (n + 22)
  have hlow : ints ((s.map fun b => (b.toNat : Int)).map low) = (s.map lowB).map byteAV := by
    simp [ints, byteAV, low_byte]
  have hbytes : ∀ l : List UInt8, bytesOf (l.map byteAV) = some l := by
    intro l
    induction l with
    | nil => rfl
    | cons b r ih => simp [bytesOf, byteAV] at ih ⊢; simp [ih]
  rw [hlow] at hl
  simp only [List.take_zero, List.map_nil, List.drop_zero, List.nil_append, ← hs] at hl
  have hm : m34.body = .seq (.ops [⟨some 2, .mv (.c (.str [])), none⟩] [0]) (.seq (.ops [⟨some 5, .mv (.t 0), none⟩, ⟨some 6, .conv .strBytes (.t 5), none⟩, ⟨some 3, .mv (.t 6), none⟩] [3])
      (.seq (.seq (.ops [⟨some 7, .mv (.t 3), none⟩, ⟨some 8, .lenL (.t 7), none⟩, ⟨some 9, .mv (.c (.int .i64 0)), none⟩] [9, 8, 3]) (.block 0 (.loop [9, 8, 3] foldBody)))
        (.seq (.ops [⟨some 21, .mv (.t 3), none⟩, ⟨some 22, .conv .bytesStr (.t 21), none⟩, ⟨some 2, .mv (.t 22), none⟩] [2]) .ret))) := rfl
  have e : n + s.length + 40 = (n + s.length + 39) + 1 := rfl
  rw [e, call_own h34, callM_value rfl rfl, ← e]
  have he : exec G (call G orc env (n + s.length + 39)) (n + s.length + 40) m34.body { fr := enterFr 0 [.str s], base := h.length, esc := none, h := h } =
      some (.ret, ⟨[(2, .str (s.map lowB))], h.length, none, h ++ [.arr none 1 ((s.map lowB).map byteAV)]⟩) := by
    rw [hm]
    have hlen : (s.map fun b => (b.toNat : Int)).length = s.length := by simp
    rw [hlen] at hl
    have e1 : n + 22 + s.length + 13 = n + s.length + 35 := by omega
    rw [e1] at hl
    have hst : foldSt h 0 (s.map byteAV) = ⟨[(9, .int .i64 0), (8, .int .i64 s.length), (3, .mslice h.length 0 s.length)], h.length, none, h ++ [.arr none 1 (s.map byteAV)]⟩ := by
      simp [foldSt]
    rw [hst] at hl
    have hb2 : bytesOf (s.map (byteAV ∘ lowB)) = some (s.map lowB) := by rw [← List.map_map]; exact hbytes _
    simp [exec_seq, exec_ops, exec_block, exec_ret, hl, runOps, stepOp, Opd.get, fget, fset, fkeep, St.put, enterFr, convAV, elemsOf, hb2]
  rw [he]
  simp [m34, leave, getRes, fget, solidAll, solid, oneA, topAll, AV.top]
end Go.Proofs.YtnnclgadfbaldaaGreatDoor

/-
  charset.find: whatever the order in which its map is filled, it finds what is known of it.
-/
namespace Go.Proofs.YtnnclgadfbaldaaGreatDoor
open Go Go.Av

def fstC : Code → Code
  | .seq a _ => a
  | c => c
def sndC : Code → Code
  | .seq _ a => a
  | c => c
def opsC : Code → Array Oper
  | .region _ o _ => o
  | _ => #[]
noncomputable def f50b : Code := Tryz.f50.body.getD .skip
noncomputable def f50r0 : Code := fstC f50b
noncomputable def f50r1 : Code := fstC (sndC f50b)
noncomputable def f50r2 : Code := fstC (sndC (sndC f50b))
noncomputable def f50o3 : Array Oper := opsC (fstC (sndC (sndC (sndC f50b))))
noncomputable def f50r4 : Code := sndC (sndC (sndC (sndC f50b)))
theorem f50_body : Tryz.f50.body = some (.seq f50r0 (.seq f50r1 (.seq f50r2 (.seq (.region 3 f50o3 true) f50r4)))) := by kernel_rfl

def a128 : AV := .agg [.int .i32 128, .func 98 [], .func 99 []]
def a256 : AV := .agg [.int .i32 256, .func 98 [], .func 99 []]
def aUtf : AV := .agg [.int .i32 0, .func 100 [], .func 101 []]
def aNone : AV := .agg [.int .i32 0, .nilfunc, .nilfunc]
def kAscii1 : List UInt8 := [117, 115, 45, 97, 115, 99, 105, 105]
def kAscii2 : List UInt8 := [97, 115, 99, 105, 105]
def kIso : List UInt8 := [105, 115, 111, 45, 56, 56, 53, 57, 45, 49]
def kLatin : List UInt8 := [108, 97, 116, 105, 110, 49]
def kUtf1 : List UInt8 := [117, 116, 102, 45, 56]
def kUtf2 : List UInt8 := [117, 116, 102, 56]

def l50 : List MInstr := [⟨some 11, .makeMap none, none⟩, ⟨some 12, .mv (.t 4), none⟩, ⟨some 13, .call (.t 12) [.c (.int .i32 128)], none⟩, ⟨none, .insert none (.t 11) (.c (.str kAscii1)) (.t 13), none⟩,
  ⟨some 14, .mv (.t 4), none⟩, ⟨some 15, .call (.t 14) [.c (.int .i32 128)], none⟩, ⟨none, .insert none (.t 11) (.c (.str kAscii2)) (.t 15), none⟩,
  ⟨some 16, .mv (.t 4), none⟩, ⟨some 17, .call (.t 16) [.c (.int .i32 256)], none⟩, ⟨none, .insert none (.t 11) (.c (.str kIso)) (.t 17), none⟩,
  ⟨some 18, .mv (.t 4), none⟩, ⟨some 19, .call (.t 18) [.c (.int .i32 256)], none⟩, ⟨none, .insert none (.t 11) (.c (.str kLatin)) (.t 19), none⟩,
  ⟨some 20, .load (some 3) (.t 5), none⟩, ⟨none, .insert none (.t 11) (.c (.str kUtf1)) (.t 20), none⟩, ⟨some 21, .load (some 3) (.t 5), none⟩, ⟨none, .insert none (.t 11) (.c (.str kUtf2)) (.t 21), none⟩,
  ⟨some 22, .mv (.t 11), none⟩, ⟨some 23, .mv (.t 0), none⟩, ⟨some 24, .call (.c (.func 34 [])) [.t 23], none⟩, ⟨some 25, .lookup none aNone true (.t 22) (.t 24), none⟩, ⟨some 10, .mv (.t 25), none⟩,
  ⟨some 26, .extract (.t 10) 0, none⟩, ⟨some 27, .extract (.t 10) 1, none⟩, ⟨some 6, .alloc 112 [.int .i32 0, .nilfunc, .nilfunc], none⟩, ⟨none, .store 3 (.t 6) (.t 26), none⟩, ⟨some 7, .mv (.t 27), none⟩]

theorem l50_comp : cOpers Tryz.prog true 30 f50o3 f50o3.toList = some l50 := by kernel_rfl
theorem o50_orderly : orderly f50o3.toList f50o3.size = true := by kernel_rfl
theorem l50_distinct : Go.Av.distinct (l50.filterMap (·.dst)) = true := by kernel_rfl
theorem l50_seenW : Go.Av.seen (ancsOf f50o3.toList) l50 = true := by kernel_rfl
theorem l50_seenAll : (List.range 27).all (seenAt false (ancsOf f50o3.toList) l50) = true := by kernel_rfl

def louds50 : List Nat := [0, 3, 6, 9, 12, 14, 16, 24, 25]
/-- The places that change blocks, of those that each place waits for. -/
theorem an50 : (ancsOf f50o3.toList).map (fun l => louds50.filter (l.contains ·)) =
    [[], [], [], [0], [], [], [0], [], [], [0], [], [], [0], [], [0], [], [0], [0, 3, 6, 9, 12, 14, 16], [], [], [0, 3, 6, 9, 12, 14, 16], [0, 3, 6, 9, 12, 14, 16], [0, 3, 6, 9, 12, 14, 16], [0, 3, 6, 9, 12, 14, 16], [],
     [0, 3, 6, 9, 12, 14, 16, 24], [0, 3, 6, 9, 12, 14, 16, 24, 25]] := by kernel_rfl

/-- The map's entries when just these are filled in. -/
def ents50 (c : Nat → Bool) : List (AV × AV) :=
  let m0 : List (AV × AV) := []
  let m1 := if c 3 then mput (.str kAscii1) a128 m0 else m0
  let m2 := if c 6 then mput (.str kAscii2) a128 m1 else m1
  let m3 := if c 9 then mput (.str kIso) a256 m2 else m2
  let m4 := if c 12 then mput (.str kLatin) a256 m3 else m3
  let m5 := if c 14 then mput (.str kUtf1) aUtf m4 else m4
  if c 16 then mput (.str kUtf2) aUtf m5 else m5

def entsB (b3 b6 b9 b12 b14 b16 : Bool) : List (AV × AV) := ents50 fun j => match j with
  | 3 => b3 | 6 => b6 | 9 => b9 | 12 => b12 | 14 => b14 | 16 => b16 | _ => false
theorem ents_B (c : Nat → Bool) : ents50 c = entsB (c 3) (c 6) (c 9) (c 12) (c 14) (c 16) := rfl
theorem put3 : ∀ b6 b9 b12 b14 b16, mput (.str kAscii1) a128 (entsB false b6 b9 b12 b14 b16) = entsB true b6 b9 b12 b14 b16 := by
  intro b6 b9 b12 b14 b16; cases b6 <;> cases b9 <;> cases b12 <;> cases b14 <;> cases b16 <;> rfl
theorem put6 : ∀ b3 b9 b12 b14 b16, mput (.str kAscii2) a128 (entsB b3 false b9 b12 b14 b16) = entsB b3 true b9 b12 b14 b16 := by
  intro b6 b9 b12 b14 b16; cases b6 <;> cases b9 <;> cases b12 <;> cases b14 <;> cases b16 <;> rfl
theorem put9 : ∀ b3 b6 b12 b14 b16, mput (.str kIso) a256 (entsB b3 b6 false b12 b14 b16) = entsB b3 b6 true b12 b14 b16 := by
  intro b6 b9 b12 b14 b16; cases b6 <;> cases b9 <;> cases b12 <;> cases b14 <;> cases b16 <;> rfl
theorem put12 : ∀ b3 b6 b9 b14 b16, mput (.str kLatin) a256 (entsB b3 b6 b9 false b14 b16) = entsB b3 b6 b9 true b14 b16 := by
  intro b6 b9 b12 b14 b16; cases b6 <;> cases b9 <;> cases b12 <;> cases b14 <;> cases b16 <;> rfl
theorem put14 : ∀ b3 b6 b9 b12 b16, mput (.str kUtf1) aUtf (entsB b3 b6 b9 b12 false b16) = entsB b3 b6 b9 b12 true b16 := by
  intro b6 b9 b12 b14 b16; cases b6 <;> cases b9 <;> cases b12 <;> cases b14 <;> cases b16 <;> rfl
theorem put16 : ∀ b3 b6 b9 b12 b14, mput (.str kUtf2) aUtf (entsB b3 b6 b9 b12 b14 false) = entsB b3 b6 b9 b12 b14 true := by
  intro b6 b9 b12 b14 b16; cases b6 <;> cases b9 <;> cases b12 <;> cases b14 <;> cases b16 <;> rfl

def L50 : List (List Nat) :=
    [[], [], [], [0], [], [], [0], [], [], [0], [], [], [0], [], [0], [], [0], [0, 3, 6, 9, 12, 14, 16], [], [], [0, 3, 6, 9, 12, 14, 16], [0, 3, 6, 9, 12, 14, 16], [0, 3, 6, 9, 12, 14, 16], [0, 3, 6, 9, 12, 14, 16], [],
     [0, 3, 6, 9, 12, 14, 16, 24], [0, 3, 6, 9, 12, 14, 16, 24, 25]]

theorem possible_filter {an : List (List Nat)} {louds : List Nat} {i : Nat} {S : List Nat} (h : possible an louds i S = true) : possible (an.map fun l => louds.filter (l.contains ·)) louds i S = true := by
  have hg : ∀ k, (an.map fun l => louds.filter (l.contains ·)).getD k [] = louds.filter ((an.getD k []).contains ·) := by
    intro k
    simp only [List.getD_eq_getElem?_getD, List.getElem?_map]
    cases an[k]? <;> simp
  simp only [possible, Bool.and_eq_true, Bool.not_eq_true', List.all_eq_true, Bool.or_eq_true] at h ⊢
  refine ⟨h.1, fun j hj => ⟨?_, ?_⟩⟩
  · rcases (h.2 j hj).1 with h1 | h1
    · left
      rw [hg]
      simp only [List.contains_eq_mem, decide_eq_false_iff_not, List.mem_filter, decide_eq_true_eq] at h1 ⊢
      exact fun hh => h1 hh.2
    · exact .inr h1
  · rcases (h.2 j hj).2 with h1 | ⟨h1, h2⟩
    · exact .inl h1
    · refine .inr ⟨?_, fun k hk => ?_⟩
      · rw [hg]
        simp only [List.contains_eq_mem, decide_eq_false_iff_not, List.mem_filter, decide_eq_true_eq] at h1 ⊢
        exact fun hh => h1 hh.2
      · rcases h2 k hk with h3 | h3
        · left
          rw [hg]
          simp only [List.contains_eq_mem, decide_eq_false_iff_not, List.mem_filter, decide_eq_true_eq] at h3 ⊢
          exact fun hh => h3 hh.2
        · exact .inr h3

theorem possible50 {i : Nat} {S : List Nat} (h : possible (ancsOf f50o3.toList) louds50 i S = true) : possible L50 louds50 i S = true := by
  have := possible_filter h
  rw [an50] at this
  exact this

theorem add50 {S : List Nat} {i j : Nat} (hj : j ∈ louds50) : (addLoud louds50 S i).contains j = (S.contains j || j == i) := by
  rw [Bool.eq_iff_iff]
  simp only [addLoud, List.contains_eq_mem, decide_eq_true_eq, List.mem_filter, Bool.or_eq_true, decide_eq_true_eq, beq_iff_eq]
  exact ⟨fun h => h.2, fun h => ⟨hj, h⟩⟩

def zC : List AV := [.int .i32 0, .nilfunc, .nilfunc]
def uC : List AV := [.int .i32 0, .func 100 [], .func 101 []]
def look50 (k : List UInt8) : AV := match mfind (.str k) (entsB true true true true true true) with
  | some x => okTuple true x true
  | none => okTuple true aNone false
def fst50 (k : List UInt8) : AV := match look50 k with | .tuple [x, _] => x | _ => .undef
def snd50 (k : List UInt8) : AV := match look50 k with | .tuple [_, x] => x | _ => .undef
def cells50 (k : List UInt8) : List AV := match fst50 k with | .agg cs => cs | _ => []

/-- The blocks: the map is laid first ('v'), or the variable. -/
def heapB (H : List Blk) (k : List UInt8) (v b0 b3 b6 b9 b12 b14 b16 b24 b25 : Bool) : List Blk :=
  H ++ ([.var 112 zC, .var 112 uC] ++ (if v then (if b0 then [.map none (entsB b3 b6 b9 b12 b14 b16)] else []) ++ (if b24 then [.var 112 (if b25 then cells50 k else zC)] else [])
    else (if b24 then [.var 112 (if b25 then cells50 k else zC)] else []) ++ (if b0 then [.map none (entsB b3 b6 b9 b12 b14 b16)] else [])))
def T50 (H : List Blk) (k : List UInt8) (v : Bool) (S : List Nat) : Option (List Blk) :=
  some (heapB H k v (S.contains 0) (S.contains 3) (S.contains 6) (S.contains 9) (S.contains 12) (S.contains 14) (S.contains 16) (S.contains 24) (S.contains 25))
def Cons50 (v : Bool) (S : List Nat) : Prop := if v then (S.contains 24 = true → S.contains 0 = true) else (S.contains 0 = true → S.contains 24 = true)
def mi50 (H : List Blk) (v : Bool) : Nat := H.length + (if v then 2 else 3)
def vi50 (H : List Blk) (v : Bool) : Nat := H.length + (if v then 3 else 2)
def st50 (H : List Blk) (s : List UInt8) : St := ⟨[(4, .func 97 []), (5, .mptr (H.length + 1) 0), (0, .str s), (2, .mptr H.length 0)], H.length, none, H ++ [.var 112 zC, .var 112 uC]⟩
def F50 (H : List Blk) (s : List UInt8) (v : Bool) : St :=
  ⟨[(4, .func 97 []), (5, .mptr (H.length + 1) 0), (0, .str s), (2, .mptr H.length 0), (11, .map (mi50 H v)), (12, .func 97 []), (13, a128), (14, .func 97 []), (15, a128), (16, .func 97 []), (17, a256), (18, .func 97 []), (19, a256), (20, aUtf), (21, aUtf),
    (22, .map (mi50 H v)), (23, .str s), (24, .str (s.map lowB)), (25, look50 (s.map lowB)), (10, look50 (s.map lowB)), (26, fst50 (s.map lowB)), (27, snd50 (s.map lowB)), (6, .mptr (vi50 H v) 0), (7, snd50 (s.map lowB))],
   H.length, none, heapB H (s.map lowB) v true true true true true true true true true⟩

theorem T50_add (H : List Blk) (k : List UInt8) (v : Bool) (S : List Nat) (i : Nat) : T50 H k v (addLoud louds50 S i) =
    some (heapB H k v (S.contains 0 || 0 == i) (S.contains 3 || 3 == i) (S.contains 6 || 6 == i) (S.contains 9 || 9 == i) (S.contains 12 || 12 == i) (S.contains 14 || 14 == i) (S.contains 16 || 16 == i) (S.contains 24 || 24 == i) (S.contains 25 || 25 == i)) := by
  simp only [T50]
  rw [add50 (by decide), add50 (by decide), add50 (by decide), add50 (by decide), add50 (by decide), add50 (by decide), add50 (by decide), add50 (by decide), add50 (by decide)]

theorem look50_cases (k : List UInt8) : (look50 k = .tuple [a128, .bool true] ∨ look50 k = .tuple [a256, .bool true] ∨ look50 k = .tuple [aUtf, .bool true] ∨ look50 k = .tuple [aNone, .bool false]) := by
  have : ∀ m : List (AV × AV), (∀ p ∈ m, p.2 = a128 ∨ p.2 = a256 ∨ p.2 = aUtf) → ((mfind (.str k) m = none) ∨ (mfind (.str k) m = some a128) ∨ (mfind (.str k) m = some a256) ∨ (mfind (.str k) m = some aUtf)) := by
    intro m
    induction m with
    | nil => intro _; exact .inl rfl
    | cons p r ih =>
      intro h
      simp only [mfind]
      split
      · rcases h p (List.mem_cons_self ..) with h | h | h <;> rw [h] <;> simp
      · exact ih fun q hq => h q (List.mem_cons_of_mem _ hq)
  unfold look50
  rcases this (entsB true true true true true true) (by
    intro p hp
    have : entsB true true true true true true = [(.str kAscii2, a128), (.str kIso, a256), (.str kLatin, a256), (.str kAscii1, a128), (.str kUtf1, aUtf), (.str kUtf2, aUtf)] := by rfl
    rw [this] at hp
    simp at hp
    rcases hp with rfl | rfl | rfl | rfl | rfl | rfl <;> simp) with h | h | h | h <;> rw [h] <;> simp [okTuple]

theorem keep50 (H : List Blk) (s : List UInt8) (v : Bool) (t : Nat) (h : ∀ (j : Nat) (mj : MInstr), l50[j]? = some mj → mj.dst ≠ some t) : fget (F50 H s v).fr t = fget (st50 H s).fr t := by
  have hd : ∀ d ∈ l50.filterMap (·.dst), d ≠ t := by
    intro d hd e
    subst e
    obtain ⟨mj, hm, hmd⟩ := List.mem_filterMap.1 hd
    obtain ⟨j, hj⟩ := List.getElem?_of_mem hm
    exact h j mj hj hmd
  have hl : l50.filterMap (·.dst) = [11, 12, 13, 14, 15, 16, 17, 18, 19, 20, 21, 22, 23, 24, 25, 10, 26, 27, 6, 7] := by rfl
  rw [hl] at hd
  simp only [List.mem_cons, List.not_mem_nil, or_false, forall_eq_or_imp, forall_eq] at hd
  simp [F50, st50, fget, hd]

theorem reads50 (H : List Blk) (s : List UInt8) (v : Bool) {i : Nat} {mi : MInstr} (hi : l50[i]? = some mi) : Reads (st50 H s) (F50 H s v) l50 i mi (F50 H s v).fr := by
  have hlt : i < 27 := (List.getElem?_eq_some_iff.1 hi).1
  have hse : seenAt false (ancsOf f50o3.toList) l50 i = true := by
    have := List.all_eq_true.1 l50_seenAll i (List.mem_range.2 hlt)
    exact this
  intro t ht
  refine ⟨fun _ _ _ _ _ => rfl, fun hall => keep50 H s v t fun j mj hj hdj => ?_⟩
  rcases seenAt_spec hse hi hj ht hdj with h1 | h1
  · have := hall j mj hj hdj; omega
  · cases h1.1

end Go.Proofs.YtnnclgadfbaldaaGreatDoor

/-
  charset.find: at each place of the order its operation does what the table says.
-/
namespace Go.Proofs.YtnnclgadfbaldaaGreatDoor
open Go Go.Av
variable {G : Nat → Option (List AV)}

/-- What is known of the flags at a place. -/
def facts50 (i : Nat) (b0 b3 b6 b9 b12 b14 b16 b24 b25 : Bool) : Prop :=
  match i with
  | 0 => b0 = false ∧ b3 = false ∧ b6 = false ∧ b9 = false ∧ b12 = false ∧ b14 = false ∧ b16 = false
  | 3 => b0 = true ∧ b3 = false
  | 6 => b0 = true ∧ b6 = false
  | 9 => b0 = true ∧ b9 = false
  | 12 => b0 = true ∧ b12 = false
  | 14 => b0 = true ∧ b14 = false
  | 16 => b0 = true ∧ b16 = false
  | 20 => b0 = true ∧ b3 = true ∧ b6 = true ∧ b9 = true ∧ b12 = true ∧ b14 = true ∧ b16 = true
  | 24 => b24 = false ∧ b25 = false
  | 25 => b0 = true ∧ b3 = true ∧ b6 = true ∧ b9 = true ∧ b12 = true ∧ b14 = true ∧ b16 = true ∧ b24 = true ∧ b25 = false
  | _ => True

theorem step50 {cf : CallF} (H : List Blk) (s : List UInt8) (h97 : ∀ lim n h, cf lim 97 [.int .i32 n] h = some (.agg [.int .i32 n, .func 98 [], .func 99 []], h)) (h34 : ∀ lim h, cf lim 34 [.str s] h = some (.str (s.map lowB), h))
    (v b0 b3 b6 b9 b12 b14 b16 b24 b25 : Bool) (i : Nat) (mi : MInstr) (hi : l50[i]? = some mi)
    (hv : if v then (b24 = true → b0 = true) else (b0 = true → b24 = true)) (hv' : if v then ((b24 || 24 == i) = true → (b0 || 0 == i) = true) else ((b0 || 0 == i) = true → (b24 || 24 == i) = true))
    (hf : facts50 i b0 b3 b6 b9 b12 b14 b16 b24 b25) :
    ∃ u, stepI G cf { F50 H s v with h := heapB H (s.map lowB) v b0 b3 b6 b9 b12 b14 b16 b24 b25 } mi =
      some (u, heapB H (s.map lowB) v (b0 || 0 == i) (b3 || 3 == i) (b6 || 6 == i) (b9 || 9 == i) (b12 || 12 == i) (b14 || 14 == i) (b16 || 16 == i) (b24 || 24 == i) (b25 || 25 == i)) ∧ ∀ d, mi.dst = some d → u = fget (F50 H s v).fr d := by
  have hlt : i < 27 := (List.getElem?_eq_some_iff.1 hi).1
  have hl := look50_cases (s.map lowB)
  match i, hlt with
  | 1, _ => simp [l50] at hi; subst hi; simp [stepI, stepOp, Opd.get, F50, fget]
  | 4, _ => simp [l50] at hi; subst hi; simp [stepI, stepOp, Opd.get, F50, fget]
  | 7, _ => simp [l50] at hi; subst hi; simp [stepI, stepOp, Opd.get, F50, fget]
  | 10, _ => simp [l50] at hi; subst hi; simp [stepI, stepOp, Opd.get, F50, fget]
  | 17, _ => simp [l50] at hi; subst hi; simp [stepI, stepOp, Opd.get, F50, fget]
  | 18, _ => simp [l50] at hi; subst hi; simp [stepI, stepOp, Opd.get, F50, fget]
  | 21, _ => simp [l50] at hi; subst hi; simp [stepI, stepOp, Opd.get, F50, fget]
  | 26, _ => simp [l50] at hi; subst hi; simp [stepI, stepOp, Opd.get, F50, fget]
  | 2, _ => simp [l50] at hi; subst hi; simp [stepI, stepOp, Opd.get, F50, fget, getAll, solidAll, solid, h97, a128]
  | 5, _ => simp [l50] at hi; subst hi; simp [stepI, stepOp, Opd.get, F50, fget, getAll, solidAll, solid, h97, a128]
  | 8, _ => simp [l50] at hi; subst hi; simp [stepI, stepOp, Opd.get, F50, fget, getAll, solidAll, solid, h97, a256]
  | 11, _ => simp [l50] at hi; subst hi; simp [stepI, stepOp, Opd.get, F50, fget, getAll, solidAll, solid, h97, a256]
  | 19, _ => simp [l50] at hi; subst hi; simp [stepI, stepOp, Opd.get, F50, fget, getAll, solidAll, solid, h34]
  | 13, _ => simp [l50] at hi; subst hi; simp [stepI, stepOp, Opd.get, F50, fget, loadAV, heapB, takeCells, uC, aUtf]
  | 15, _ => simp [l50] at hi; subst hi; simp [stepI, stepOp, Opd.get, F50, fget, loadAV, heapB, takeCells, uC, aUtf]
  | 22, _ => simp [l50] at hi; subst hi; rcases hl with h | h | h | h <;> simp [stepI, stepOp, Opd.get, F50, fget, h, fst50, snd50]
  | 23, _ => simp [l50] at hi; subst hi; rcases hl with h | h | h | h <;> simp [stepI, stepOp, Opd.get, F50, fget, h, fst50, snd50]
  | 3, _ =>
    simp [l50] at hi; subst hi; obtain ⟨rfl, rfl⟩ := hf
    cases v <;> cases b24 <;> simp at hv <;> simp [stepI, stepOp, Opd.get, F50, fget, insertAV, keyOk, mi50, heapB, mayLay, put3]
  | 6, _ =>
    simp [l50] at hi; subst hi; obtain ⟨rfl, rfl⟩ := hf
    cases v <;> cases b24 <;> simp at hv <;> simp [stepI, stepOp, Opd.get, F50, fget, insertAV, keyOk, mi50, heapB, mayLay, put6]
  | 9, _ =>
    simp [l50] at hi; subst hi; obtain ⟨rfl, rfl⟩ := hf
    cases v <;> cases b24 <;> simp at hv <;> simp [stepI, stepOp, Opd.get, F50, fget, insertAV, keyOk, mi50, heapB, mayLay, put9]
  | 12, _ =>
    simp [l50] at hi; subst hi; obtain ⟨rfl, rfl⟩ := hf
    cases v <;> cases b24 <;> simp at hv <;> simp [stepI, stepOp, Opd.get, F50, fget, insertAV, keyOk, mi50, heapB, mayLay, put12]
  | 14, _ =>
    simp [l50] at hi; subst hi; obtain ⟨rfl, rfl⟩ := hf
    cases v <;> cases b24 <;> simp at hv <;> simp [stepI, stepOp, Opd.get, F50, fget, insertAV, keyOk, mi50, heapB, mayLay, put14]
  | 16, _ =>
    simp [l50] at hi; subst hi; obtain ⟨rfl, rfl⟩ := hf
    cases v <;> cases b24 <;> simp at hv <;> simp [stepI, stepOp, Opd.get, F50, fget, insertAV, keyOk, mi50, heapB, mayLay, put16]
  | 24, _ =>
    simp [l50] at hi; subst hi; obtain ⟨rfl, rfl⟩ := hf
    cases v <;> cases b0 <;> simp at hv hv' <;> simp [stepI, stepOp, F50, fget, vi50, heapB, zC]
  | 0, _ =>
    simp [l50] at hi; subst hi; obtain ⟨rfl, rfl, rfl, rfl, rfl, rfl, rfl⟩ := hf
    cases v <;> cases b24 <;> simp at hv hv' <;> simp [stepI, stepOp, F50, fget, mi50, heapB, entsB, ents50]
  | 20, _ =>
    simp [l50] at hi; subst hi; obtain ⟨rfl, rfl, rfl, rfl, rfl, rfl, rfl⟩ := hf
    have hlook : ∀ h : List Blk, h[mi50 H v]? = some (.map none (entsB true true true true true true)) → lookupAV h none aNone true (.map (mi50 H v)) (.str (s.map lowB)) = some (look50 (s.map lowB)) := by
      intro h hh
      unfold look50
      simp only [lookupAV, keyOk, hh]
      cases mfind (AV.str (s.map lowB)) (entsB true true true true true true) <;> rfl
    have hh : (heapB H (s.map lowB) v true true true true true true true b24 b25)[mi50 H v]? = some (.map none (entsB true true true true true true)) := by
      cases v <;> cases b24 <;> simp at hv <;> simp [heapB, mi50]
    simp [stepI, stepOp, Opd.get, F50, fget, hlook _ hh]
  | 25, _ =>
    simp [l50] at hi; subst hi; obtain ⟨rfl, rfl, rfl, rfl, rfl, rfl, rfl, rfl, rfl⟩ := hf
    rcases hl with h | h | h | h <;> cases v <;> simp [stepI, stepOp, Opd.get, F50, fget, heapB, vi50, storeAV, h, fst50, snd50, cells50, a128, a256, aUtf, aNone, AV.cells, isCell, mayLay, putAt, zC]

theorem facts_of {i : Nat} {S : List Nat} (hlt : i < 27) (h : possible L50 louds50 i S = true) : facts50 i (S.contains 0) (S.contains 3) (S.contains 6) (S.contains 9) (S.contains 12) (S.contains 14) (S.contains 16) (S.contains 24) (S.contains 25) := by
  match i, hlt with
  | 0, _ => simp [possible, L50, louds50] at h; simp [facts50]; simp_all
  | 3, _ => simp [possible, L50, louds50] at h; simp [facts50]; simp_all
  | 6, _ => simp [possible, L50, louds50] at h; simp [facts50]; simp_all
  | 9, _ => simp [possible, L50, louds50] at h; simp [facts50]; simp_all
  | 12, _ => simp [possible, L50, louds50] at h; simp [facts50]; simp_all
  | 14, _ => simp [possible, L50, louds50] at h; simp [facts50]; simp_all
  | 16, _ => simp [possible, L50, louds50] at h; simp [facts50]; simp_all
  | 20, _ => simp [possible, L50, louds50] at h; simp [facts50]; simp_all
  | 24, _ => simp [possible, L50, louds50] at h; simp [facts50]; simp_all
  | 25, _ => simp [possible, L50, louds50] at h; simp [facts50]; simp_all
  | 1, _ | 2, _ | 4, _ | 5, _ | 7, _ | 8, _ | 10, _ | 11, _ | 13, _ | 15, _ | 17, _ | 18, _ | 19, _ | 21, _ | 22, _ | 23, _ | 26, _ => trivial
  | n + 27, h => omega

theorem hat50 {cf : CallF} (H : List Blk) (s : List UInt8) (h97 : ∀ lim n h, cf lim 97 [.int .i32 n] h = some (.agg [.int .i32 n, .func 98 [], .func 99 []], h)) (h34 : ∀ lim h, cf lim 34 [.str s] h = some (.str (s.map lowB), h))
    (v : Bool) (i : Nat) (mi : MInstr) (S : List Nat) (hi : l50[i]? = some mi) (hp : possible (ancsOf f50o3.toList) louds50 i S = true) (hc : Cons50 v S) (hc' : Cons50 v (addLoud louds50 S i)) :
    At (G := G) cf (st50 H s) (F50 H s v) (T50 H (s.map lowB) v) l50 i mi S (addLoud louds50 S i) := by
  have hlt : i < 27 := (List.getElem?_eq_some_iff.1 hi).1
  have hc'' : if v then ((S.contains 24 || 24 == i) = true → (S.contains 0 || 0 == i) = true) else ((S.contains 0 || 0 == i) = true → (S.contains 24 || 24 == i) = true) := by
    unfold Cons50 at hc'
    rw [add50 (by decide), add50 (by decide)] at hc'
    exact hc'
  obtain ⟨u, h1, h2⟩ := step50 (G := G) (cf := cf) H s h97 h34 v _ _ _ _ _ _ _ _ _ i mi hi hc hc'' (facts_of hlt (possible50 hp))
  exact ⟨(F50 H s v).fr, _, _, u, rfl, h1, T50_add H _ v S i, h2, reads50 H s v hi⟩

theorem frame50 (H : List Blk) (s : List UInt8) (v v' : Bool) (t : Nat) (h1 : t ≠ 11) (h2 : t ≠ 22) (h3 : t ≠ 6) : fget (F50 H s v').fr t = fget (F50 H s v).fr t := by
  simp [F50, fget, Ne.symm h1, Ne.symm h2, Ne.symm h3]

theorem hsw50 (H : List Blk) (s : List UInt8) (i : Nat) (mi : MInstr) (S : List Nat) (v : Bool) (hi : l50[i]? = some mi) (hp : possible (ancsOf f50o3.toList) louds50 i S = true) (hc : Cons50 v S) :
    ∃ v', Cons50 v' S ∧ Cons50 v' (addLoud louds50 S i) ∧ T50 H (s.map lowB) v' S = T50 H (s.map lowB) v S ∧
      ∀ (j : Nat) (mj : MInstr) t, l50[j]? = some mj → mj.dst = some t → (∀ k ∈ louds50, (k ∈ (ancsOf f50o3.toList).getD j [] ∨ k = j) → k ∈ S) → fget (F50 H s v').fr t = fget (F50 H s v).fr t := by
  by_cases hc' : Cons50 v (addLoud louds50 S i)
  · exact ⟨v, hc, hc', rfl, fun _ _ _ _ _ _ => rfl⟩
  · have hno : S.contains 0 = false ∧ S.contains 24 = false ∧ (i = 0 ∨ i = 24) := by
      unfold Cons50 at hc hc'
      rw [add50 (by decide), add50 (by decide)] at hc'
      have hnc : S.contains i = false := by
        simp only [possible, Bool.and_eq_true, Bool.not_eq_true'] at hp
        exact hp.1
      cases v <;> simp only [Bool.false_eq_true, if_true, if_false] at hc hc' <;>
        (by_cases e0 : i = 0 <;> by_cases e24 : i = 24 <;> simp_all)
    obtain ⟨n0, n24, hor⟩ := hno
    refine ⟨!v, ?_, ?_, ?_, fun j mj t hj hd hall => ?_⟩
    · unfold Cons50; rw [n0, n24]; cases v <;> simp
    · unfold Cons50
      unfold Cons50 at hc'
      rw [add50 (by decide), add50 (by decide)] at hc' ⊢
      rw [n0, n24] at hc' ⊢
      cases v <;> rcases hor with rfl | rfl <;> simp at hc' ⊢
    · simp only [T50, n0, n24]
      cases v <;> simp [heapB]
    · have hS0 : 0 ∉ S := by simpa using n0
      have hS24 : 24 ∉ S := by simpa using n24
      have uniq : ∀ (k : Nat) (mk : MInstr), l50[k]? = some mk → mk.dst = some t → j = k := fun k mk hk hdk => distinct_spec l50_distinct hj hk hd hdk
      refine frame50 H s v (!v) t (fun e => ?_) (fun e => ?_) (fun e => ?_)
      · subst e
        have := uniq 0 _ rfl rfl
        exact hS0 (hall 0 (by decide) (.inr this.symm))
      · subst e
        have := uniq 17 _ rfl rfl
        subst this
        refine hS0 (hall 0 (by decide) (.inl ?_))
        have hk : ((ancsOf f50o3.toList).getD 17 []).contains 0 = true := by kernel_rfl
        simpa using hk
      · subst e
        have := uniq 24 _ rfl rfl
        exact hS24 (hall 24 (by decide) (.inr this.symm))
end Go.Proofs.YtnnclgadfbaldaaGreatDoor

/-
  charset.find: the whole.
-/
namespace Go.Proofs.YtnnclgadfbaldaaGreatDoor
open Go Go.Av
variable {G : Nat → Option (List AV)}

def k50a : M := .ops [⟨some 2, .alloc 112 [.int .i32 0, .nilfunc, .nilfunc], none⟩, ⟨some 3, .mv (.c (.bool false)), none⟩] [0, 2]
def k50b : M := .ops [⟨some 4, .mv (.c (.func 97 [])), none⟩] [4, 0, 2]
def k50c : M := .ops [⟨some 8, .build [.int .i32 0] [], none⟩, ⟨some 9, .build [.int .i32 0, .nilfunc, .nilfunc] [(0, 1, .t 8), (1, 1, .c (.func 100 [])), (2, 1, .c (.func 101 []))], none⟩, ⟨some 5, .alloc 112 [.int .i32 0, .nilfunc, .nilfunc], none⟩, ⟨none, .store 3 (.t 5) (.t 9), none⟩] [4, 5, 0, 2]
def k50d : M := .seq (.ops [⟨some 28, .load (some 3) (.t 6), none⟩, ⟨some 29, .mv (.t 7), none⟩, ⟨none, .store 3 (.t 2) (.t 28), none⟩, ⟨some 3, .mv (.t 29), none⟩] [2, 3]) .ret
theorem c50a : cCode Tryz.prog true 30 f50r0 [[0, 2]] = some (k50a, []) := by kernel_rfl
theorem c50b : cCode Tryz.prog true 30 f50r1 [[4, 0, 2]] = some (k50b, []) := by kernel_rfl
theorem c50c : cCode Tryz.prog true 30 f50r2 [[4, 5, 0, 2]] = some (k50c, []) := by kernel_rfl
theorem c50d : cCode Tryz.prog true 30 f50r4 [[2, 3]] = some (k50d, []) := by kernel_rfl
theorem run50 {cf : CallF} (H : List Blk) (s : List UInt8) : exec G cf 5 (.seq k50a (.seq k50b k50c)) { fr := enterFr 0 [.str s], base := H.length, esc := none, h := H } = some (.normal, st50 H s) := by
  simp [k50a, k50b, k50c, exec, runOps, stepOp, Opd.get, fget, fset, fkeep, St.put, enterFr, fillAV, putAt, AV.cells, storeAV, isCell, mayLay, st50, zC, uC, topAll, AV.top]
theorem run50a {cf : CallF} (H : List Blk) (s : List UInt8) : exec G cf 1 k50a { fr := enterFr 0 [.str s], base := H.length, esc := none, h := H } = some (.normal, ⟨[(0, .str s), (2, .mptr H.length 0)], H.length, none, H ++ [.var 112 zC]⟩) := by
  simp [k50a, exec, runOps, stepOp, Opd.get, fget, fset, fkeep, St.put, enterFr, zC]
theorem run50b {cf : CallF} (H : List Blk) (s : List UInt8) : exec G cf 1 k50b ⟨[(0, .str s), (2, .mptr H.length 0)], H.length, none, H ++ [.var 112 zC]⟩ = some (.normal, ⟨[(4, .func 97 []), (0, .str s), (2, .mptr H.length 0)], H.length, none, H ++ [.var 112 zC]⟩) := by
  simp [k50b, exec, runOps, stepOp, Opd.get, fget, fset, fkeep, St.put]
theorem run50c {cf : CallF} (H : List Blk) (s : List UInt8) : exec G cf 1 k50c ⟨[(4, .func 97 []), (0, .str s), (2, .mptr H.length 0)], H.length, none, H ++ [.var 112 zC]⟩ = some (.normal, st50 H s) := by
  simp [k50c, exec, runOps, stepOp, Opd.get, fget, fset, fkeep, St.put, fillAV, putAt, AV.cells, storeAV, isCell, mayLay, st50, zC, uC]

def out50 (s : List UInt8) : AV := .tuple [.agg (cells50 (s.map lowB)), snd50 (s.map lowB)]
def end50 (H : List Blk) (s : List UInt8) (v : Bool) : St :=
  ⟨[(2, .mptr H.length 0), (3, snd50 (s.map lowB))], H.length, none, (heapB H (s.map lowB) v true true true true true true true true true).set H.length (.var 112 (cells50 (s.map lowB)))⟩

theorem run50d {cf : CallF} (H : List Blk) (s : List UInt8) (v : Bool) : exec G cf 3 k50d { F50 H s v with fr := fkeep (F50 H s v).fr [6, 7, 2] } = some (.ret, end50 H s v) := by
  rcases look50_cases (s.map lowB) with h | h | h | h <;> cases v <;>
  simp [k50d, exec, runOps, stepOp, Opd.get, fget, fset, fkeep, St.put, putAt, AV.cells, storeAV, isCell, mayLay, end50, F50, vi50, heapB, loadAV, takeCells, h, fst50, snd50, cells50, a128, a256, aUtf, aNone, zC]
def r50 : MFunc := ⟨30, 1, [.cell 2 (some 3), .t 3], .skip, none⟩
theorem leave50 (H : List Blk) (s : List UInt8) (v : Bool) : leave r50 H.length (end50 H s v) = some (out50 s, H) := by
  rcases look50_cases (s.map lowB) with h | h | h | h <;> cases v <;>
  simp [r50, leave, getRes, end50, heapB, fget, loadAV, takeCells, out50, h, fst50, snd50, cells50, a128, a256, aUtf, aNone, solidAll, solid, oneA, topAll, AV.top, zC]
def N0 : Nums := { index := 137, indexByte := 188, builderString := 133, copyCheck := 184, linesOf := 134, builder := 186, byte := 5, find := 50, wide := (98, 99), utf := (100, 101) }
theorem findAV_eq (s : List UInt8) : findAV N0 s = .tuple [.agg (match fst50 s with | .agg cs => cs | _ => []), snd50 s] := by
  have hm : entsB true true true true true true = [(.str kAscii2, a128), (.str kIso, a256), (.str kLatin, a256), (.str kAscii1, a128), (.str kUtf1, aUtf), (.str kUtf2, aUtf)] := by rfl
  by_cases e1 : s = kAscii1
  · subst e1; rfl
  by_cases e2 : s = kAscii2
  · subst e2; rfl
  by_cases e3 : s = kIso
  · subst e3; rfl
  by_cases e4 : s = kLatin
  · subst e4; rfl
  by_cases e5 : s = kUtf1
  · subst e5; rfl
  by_cases e6 : s = kUtf2
  · subst e6; rfl
  have hl : look50 s = .tuple [aNone, .bool false] := by
    unfold look50
    rw [hm]
    simp [mfind, AV.same, Ne.symm e1, Ne.symm e2, Ne.symm e3, Ne.symm e4, Ne.symm e5, Ne.symm e6, okTuple]
  simp only [fst50, snd50, hl, aNone]
  unfold kAscii1 at e1; unfold kAscii2 at e2; unfold kIso at e3; unfold kLatin at e4; unfold kUtf1 at e5; unfold kUtf2 at e6
  simp [findAV, e1, e2, e3, e4, e5, e6]
end Go.Proofs.YtnnclgadfbaldaaGreatDoor

/-
  charset.find: what is answered without its text is what it does.
-/
namespace Go.Proofs.YtnnclgadfbaldaaGreatDoor
open Go Go.Av
variable {G : Nat → Option (List AV)}

theorem find_wp (hmix : Tryz.prog.follows .mixedOrders = true) {cf : CallF} (hcf : CallOk G Tryz.prog cf) (H : List Blk) (s : List UInt8) (h97 : ∀ lim n h, cf lim 97 [.int .i32 n] h = some (.agg [.int .i32 n, .func 98 [], .func 99 []], h)) (h34 : ∀ lim h, cf lim 34 [.str s] h = some (.str (s.map lowB), h))
    {ρ : Nat → Option Nat} {w : World} {a : Act} {Q : Exit → Act → World → Prop} (hs : Sim G ρ (st50 H s).h w) (hf : FrRel ρ (st50 H s).h w (st50 H s).fr a.tmps) (hsz : a.tmps.size = 30)
    (hQ : ∀ v, After G 30 ρ (st50 H s) w a .normal (F50 H s v) Q) : (Code.region 3 f50o3 true).wp Tryz.prog Q a w := by
  refine wp_region_any hmix ?_
  have hlt : ∀ j ∈ louds50, j < f50o3.size := by
    have : f50o3.size = 27 := by kernel_rfl
    rw [this]; decide
  have hfr0 : FrRel ρ (st50 H s).h { w with drawn := w.drawn + 1 } (st50 H s).fr a.tmps := hf.step (base := 0) (esc := none) (Step.drawn _)
  have hemp : (louds50.filter fun j => (Array.replicate f50o3.size false).getD j false) = [] := List.filter_eq_nil_iff.2 fun j _ => by simp [Array.getD]
  refine draw_wp_v (V := Bool) hcf (louds := louds50) (st := st50 H s) (stF := F50 H s) (T := T50 H (s.map lowB)) (Cons := Cons50) (a0 := a) (w0 := w) l50_comp o50_orderly l50_seenW l50_distinct (fun _ => rfl) (fun _ => rfl) (fun v _ => by cases v <;> rfl) hlt
    (fun v t h => keep50 H s v t h) (fun i mi S v h1 _ h2 h3 => hsw50 H s i mi S v h1 h2 h3) (fun v i mi S h1 _ h2 h3 h4 => hat50 H s h97 h34 v i mi S h1 h2 h3 h4) ρ
    (fun v ρ' w' a' m1 m2 m3 m4 m5 => hQ v ρ' w' a' m1 m2 m3 m4 m5) f50o3.size _ a _ ρ (st50 H s).h (st50 H s).fr true (by simp) (unlisted_le _ _) ?_ ?_ ?_ (hs.drawn _) (Step.drawn _) (by simp [st50]) hsz rfl hfr0 ?_ ?_
  · rw [hemp]; simp [Cons50]
  · intro i o _ h
    simp [Array.getD] at h
  · rw [hemp]; simp [T50, heapB, st50]
  · intro t i mi _ h
    simp [Array.getD] at h
  · intro t _
    rfl
end Go.Proofs.YtnnclgadfbaldaaGreatDoor

/-
  charset.find: the call.
-/
namespace Go.Proofs.YtnnclgadfbaldaaGreatDoor
open Go Go.Av
variable {G : Nat → Option (List AV)}

theorem find_calls (hmix : Tryz.prog.follows .mixedOrders = true) {cf : CallF} (hcf : CallOk G Tryz.prog cf) (H : List Blk) (s : List UInt8) (h97 : ∀ lim n h, cf lim 97 [.int .i32 n] h = some (.agg [.int .i32 n, .func 98 [], .func 99 []], h)) (h34 : ∀ lim h, cf lim 34 [.str s] h = some (.str (s.map lowB), h))
    {ρ : Nat → Option Nat} {w : World} {lim : Nat → Bool} {vs : Array Value} (hs : Sim G ρ H w) (hl : [AV.str s].length = vs.size) (hr : ∀ (i : Nat) a v, [AV.str s][i]? = some a → vs[i]? = some v → RelH ρ H w a v) :
    Calls Tryz.prog 50 vs w fun e w' => ∃ v ρ' esc', e = .returned v ∧ Sim G ρ' H w' ∧ (∀ l, esc' = some l → ∀ q ∈ l, lim q = true) ∧ Step H.length esc' ρ H w ρ' H w' ∧ RelH ρ' H w' (out50 s) v ∧ (out50 s).top ≤ H.length := by
  have hbody := f50_body
  refine body_sound (G := G) (m := r50) (rs := [.cell 2 (some 3), .t 3]) (keep := none) Tryz.func50 hbody (by kernel_rfl) rfl rfl (by decide +kernel) (by kernel_rfl) rfl (E := fun e st' => e = .ret ∧ ∃ v, st' = end50 H s v)
    (fun e st' h => by obtain ⟨rfl, v, rfl⟩ := h; exact ⟨leave50 H s v, .inr rfl⟩) hs hl hr (by simp [topAll, AV.top]) ?_
  intro a Q hf hsz hQ
  refine wp_seq (exec_wp hmix hcf 1 _ _ _ _ (run50a H s) _ _ _ c50a ρ w a _ hs hf (Nat.le_refl _) hsz ?_).1
  intro ρ1 w1 a1 p1 p2 p3 p4 p5
  refine wp_seq (exec_wp hmix hcf 1 _ _ _ _ (run50b H s) _ _ _ c50b ρ1 w1 a1 _ p1 p3 (by simp) p4 ?_).1
  intro ρ2 w2 a2 q1 q2 q3 q4 q5
  refine wp_seq (exec_wp hmix hcf 1 _ _ _ _ (run50c H s) _ _ _ c50c ρ2 w2 a2 _ q1 q3 (by simp) q4 ?_).1
  intro ρ3 w3 a3 r1 r2 r3 r4 r5
  refine wp_seq (find_wp hmix hcf H s h97 h34 r1 r3 r4 ?_)
  intro v ρ4 w4 a4 t1 t2 t3 t4 t5
  refine (exec_wp hmix hcf 3 _ _ _ _ (run50d H s v) _ _ _ c50d ρ4 w4 a4 _ t1 t3.keep (by simp [F50, heapB]) t4 ?_).1
  intro ρ5 w5 a5 u1 u2 u3 u4 u5
  exact hQ .ret _ ⟨rfl, v, rfl⟩ ρ5 w5 a5 u1 ((((p2.trans q2).trans r2).trans t2).trans u2) u3 u4 (u5.trans (t5.trans (r5.trans (q5.trans p5))))
end Go.Proofs.YtnnclgadfbaldaaGreatDoor

/-
  charset.find: as 'orcOf' answers it.
-/
namespace Go.Proofs.YtnnclgadfbaldaaGreatDoor
open Go Go.Av
variable {G : Nat → Option (List AV)}

def env50 : Nat → Option MFunc := fun f => if f = 34 then some m34 else if f = 71 then some m71 else if f = 97 then some m97 else none

theorem env50_ok : EnvOk Tryz.prog env50 := by
  intro f m h
  unfold env50 at h
  split at h
  · rename_i e; subst e; cases h; exact ⟨_, _, _, _, Tryz.func34, by kernel_rfl, by kernel_rfl, c34⟩
  · split at h
    · rename_i e; subst e; cases h; exact ⟨_, _, _, _, Tryz.func71, by kernel_rfl, by kernel_rfl, c71⟩
    · split at h
      · rename_i e; subst e; cases h; exact ⟨_, _, _, _, Tryz.func97, by kernel_rfl, by kernel_rfl, c97⟩
      · cases h

theorem run97 {orc : CallF} (k : Nat) (lim : Nat → Bool) (n : Int) (h : List Blk) : call G orc env50 (k + 10) lim 97 [.int .i32 n] h = some (.agg [.int .i32 n, .func 98 [], .func 99 []], h) := by
  simp [call, env50, callM, m97, enterFr, exec, runOps, stepOp, Opd.get, fget, fset, fkeep, St.put, fillAV, putAt, AV.cells, storeAV, isCell, mayLay, leave, getRes, loadAV, takeCells, solidAll, solid, oneA, topAll, AV.top]
theorem find_ok (hmix : Tryz.prog.follows .mixedOrders = true) : FnOk G Tryz.prog (orcOf N0) 50 := by
  intro lim args H r H' hz ρ w vs hs hl hr ht
  refine ⟨⟨_, Tryz.func50, by kernel_rfl, by kernel_rfl⟩, ?_⟩
  simp only [orcOf, N0, if_true] at hz
  rw [if_neg (by decide), if_neg (by decide), if_neg (by decide), if_neg (by decide), if_neg (by decide)] at hz
  split at hz
  · rename_i s
    split at hz
    · rename_i hb
      cases hz
      have hcf : CallOk G Tryz.prog (call G (fun _ _ _ _ => none) env50 (0 + s.length + 40)) := call_ok hmix (fun lim f args H r H' h => by cases h) env50_ok _
      have h97 : ∀ lim n h, call G (fun _ _ _ _ => none) env50 (0 + s.length + 40) lim 97 [.int .i32 n] h = some (.agg [.int .i32 n, .func 98 [], .func 99 []], h) := fun lim n h => run97 (0 + s.length + 30) lim n h
      have h34 : ∀ lim h, call G (fun _ _ _ _ => none) env50 (0 + s.length + 40) lim 34 [.str s] h = some (.str (s.map lowB), h) := fun lim h => fold_run (env := env50) rfl rfl s hb h 0 lim
      have := find_calls (lim := lim) hmix hcf H s h97 h34 hs hl hr
      have he : findAV N0 (s.map lowB) = out50 s := findAV_eq (s.map lowB)
      show Calls Tryz.prog 50 vs w fun e w' => ∃ v ρ' esc', e = .returned v ∧ Sim G ρ' H w' ∧ (∀ l, esc' = some l → ∀ q ∈ l, lim q = true) ∧ Step H.length esc' ρ H w ρ' H w' ∧ RelH ρ' H w' (findAV N0 (s.map lowB)) v ∧ (findAV N0 (s.map lowB)).top ≤ H.length
      rw [he]
      exact this
    · cases hz
  · cases hz
end Go.Proofs.YtnnclgadfbaldaaGreatDoor
