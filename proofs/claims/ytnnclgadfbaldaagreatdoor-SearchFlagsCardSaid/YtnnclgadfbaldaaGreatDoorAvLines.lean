/-
  lines.Of, walked: its iterator, slices.Collect, slices.AppendSeq.
-/
import Derived.RangeFuncBox
import Derived.RangeFuncLeaves
import Derived.Shelf.Abstract
import Derived.WalkKit
import Derived.OwnWalkIn
import Derived.TacticsInMore
import Derived.LoopNIn
import Derived.LoopIn
import Derived.Lib.Hide
import Derived.Maps.AppendAt
import Derived.Test.YtnnclgadfbaldaaGreatDoorAvD
import Derived.Test.YtnnclgadfbaldaaGreatDoorProg
import Derived.Test.YtnnclgadfbaldaaGreatDoorAvFind
namespace Go.Proofs
open Go.RowKit Go.Shelf

set_option maxRecDepth 100000 in
set_option maxHeartbeats 1000000 in
theorem Tryz.index_any (b o len cap : Nat) (bs : List Nat) (hl : bs.length = len) (hlen : len ≤ maxLen) (w : World) (hc : ∀ j, j < len → w.cell? ⟨b, o + j, none⟩ = some (.int .u8 (bs[j]?.getD 0))) :
    Calls Tryz.prog 230 #[.slice (some ⟨b, o, none⟩) len cap, .int .u8 10] w fun e w' => e = .returned (.int .i64 (firstAt 10 bs 0)) ∧ w' = w := by
  unfold maxLen at hlen
  go_enter Tryz.func230, Tryz.ntmps230
  go_wp2
  go_loop [8] (fun i => ∃ k : Nat, k ≤ len ∧ i = .int .i64 k ∧ ∀ j, j < k → bs[j]? ≠ some 10) (fun i => len - (intOf i).toNat)
  case atStart => exact ⟨0, Nat.zero_le _, rfl, fun j h => by omega⟩
  case round =>
    obtain ⟨k, hk, rfl, hno⟩ := hrel
    by_cases hlt : k < len
    · have hcx := hc k hlt
      have hb : bs[k]? = some (bs[k]?.getD 0) := by rw [List.getElem?_eq_getElem (by omega)]; rfl
      generalize bs[k]?.getD 0 = x at hcx hb
      have HN := Lib.hid hno
      have HB := Lib.hid hb
      clear hno hb hc
      by_cases hx : x = 10
      · subst hx
        have ht : ((10 : Int) == ((10 : Nat) : Int)) = true := rfl
        go_wp2
        go_ret
        exact ⟨by rw [firstAt_some 10 bs 0 k HB.out HN.out]; simp, rfl⟩
      · have ht : ((10 : Int) == (x : Int)) = false := by simp; omega
        go_wp2
        go_round
        case rel => exact ⟨k + 1, by omega, by go_num, fun j hj => by
          by_cases e : j = k
          · subst e; rw [HB.out]; simpa using hx
          · exact HN.out j (by omega)⟩
        case measure => simp [intOf]; omega
    · obtain rfl : k = len := by omega
      have HN := Lib.hid hno
      clear hno hc
      go_wp2
      go_ret
      exact ⟨by rw [firstAt_none 10 bs 0 (fun j hj => HN.out j (by omega))]; simp, rfl⟩

attribute [local go_sem] Oper.semAt_some

/-- One line: where it begins, where it ends, where the next one begins. -/
def lineV (x : Nat × Nat × Nat) : Value := .agg #[.int .i64 x.1, .int .i64 x.2.1, .int .i64 x.2.2]
def lineO (x : Nat × Nat × Nat) : Obj := .cells #[.int .i64 x.1, .int .i64 x.2.1, .int .i64 x.2.2] 196

set_option maxRecDepth 100000 in
set_option maxHeartbeats 2000000 in
theorem Tryz.all1_in (n : Nat) (l Ba Bb n₀ bb o len cap a b m₀ : Nat) (bs : List Nat) (hl : bs.length = len) (hlen : len ≤ maxLen) (hcap : len ≤ cap) (hab : a ≤ b) (hb : b ≤ len) (hm₀ : b - a ≤ m₀) (hbb : a < b → bb < n₀) (hBa : Ba < n₀) (hBb : Bb < n₀) (J : List (Nat × Nat × Nat) → World → Prop)
    (hY : ∀ pre x (W : World), J pre W → pre.length < len → YieldAt Fence.wide (n - 1) Tryz.prog l #[lineV x] (W.alloc (lineO x)) fun e W' =>
      e = .returned (.bool true) ∧ J (pre ++ [x]) W' ∧ Below n₀ W W' ∧ W'.heap[W.heap.size]? = some (lineO x))
    (W : World) (hn : n₀ ≤ W.heap.size) (ha0 : W.cell? ⟨Ba, 0, none⟩ = some (.int .i64 a)) (ha1 : W.cell? ⟨Ba, 1, none⟩ = some (.int .i64 b)) (hb0 : a < b → W.cell? ⟨Bb, 0, none⟩ = some (.slice (some ⟨bb, o, none⟩) len cap))
    (hc : ∀ j, j < len → W.cell? ⟨bb, o + j, none⟩ = some (.int .u8 (bs[j]?.getD 0))) (h0 : J [] W) :
    CallsIn Fence.wide n Tryz.prog 229 #[.func (.yield l) #[] #[], .pointer (some ⟨Ba, 0, none⟩), .pointer (some ⟨Bb, 0, none⟩)] W fun e W' => (∃ v, e = .returned v) ∧ J (linesN m₀ bs a b) W' := by
  unfold maxLen at hlen
  refine callsIn_of_wp Tryz.func229 rfl trivial ?_ rfl
  simp only [Tryz.ntmps229, List.size_toArray, List.length_cons, List.length_nil, Nat.reduceAdd, Nat.reduceSub, Array.replicate_succ, Array.replicate_zero, List.push_toArray, List.append_toArray, List.nil_append, List.cons_append]
  gi_wp2
  gi_loopw [4] (fun i wr => ∃ (k m : Nat) (pre : List (Nat × Nat × Nat)), k ≤ b ∧ pre.length + a ≤ k ∧ b - k ≤ m ∧ i = .int .i64 k ∧ linesN m₀ bs a b = pre ++ linesN m bs k b ∧ J pre wr ∧ Below n₀ W wr) (fun i _ => b - (intOf i).toNat)
  case atStart => exact ⟨a, m₀, [], hab, by simp, hm₀, rfl, rfl, h0, Below.refl _ _⟩
  case round =>
    obtain ⟨k, m, pre, hk, hpk, hm, rfl, hxs, hJ, hB⟩ := hrel
    have ha1' : wr.cell? ⟨Ba, 1, none⟩ = some (.int .i64 b) := (hB.cell (p := ⟨Ba, 1, none⟩) hBa).trans ha1
    have hnw : n₀ ≤ wr.heap.size := Nat.le_trans hn hB.size
    clear ha0 ha1
    have hBa' : Ba < wr.heap.size := by omega
    have hBb' : Bb < wr.heap.size := by omega
    by_cases hlt : k < b
    · have hltab : a < b := by omega
      have hbb := hbb hltab
      have hbb' : bb < wr.heap.size := by omega
      have hb0' : wr.cell? ⟨Bb, 0, none⟩ = some (.slice (some ⟨bb, o, none⟩) len cap) := (hB.cell (p := ⟨Bb, 0, none⟩) hBb).trans (hb0 hltab)
      clear hb0
      have hcx : ∀ j, j < len → wr.cell? ⟨bb, o + j, none⟩ = some (.int .u8 (bs[j]?.getD 0)) := fun j h => (hB.cell (p := ⟨bb, o + j, none⟩) hbb).trans (hc j h)
      have HC := Lib.hid hcx
      have HL := Lib.hid hl
      have HJ := Lib.hid hJ
      have HB := Lib.hid hB
      have HX := Lib.hid hxs
      clear hc hcx hl hJ hB hxs
      obtain ⟨m, rfl⟩ : ∃ m', m = m' + 1 := ⟨m - 1, by omega⟩
      have CI : ∀ X : World, X.heap[bb]? = wr.heap[bb]? → Calls Tryz.prog 230 #[.slice (some ⟨bb, o + k, none⟩) (b - k) (cap - k), .int .u8 10] X fun e w' => e = .returned (.int .i64 (firstAt 10 ((bs.drop k).take (b - k)) 0)) ∧ w' = X := fun X hX =>
        Tryz.index_any bb (o + k) (b - k) (cap - k) ((bs.drop k).take (b - k)) (by simp [HL.out]; omega) (by unfold maxLen; omega) X (fun j hj => by
          rw [World.cell?_of_block (a := ⟨bb, o + k + j, none⟩) hX, Nat.add_assoc, HC.out (k + j) (by omega)]
          simp [hj])
      rcases firstAt_cases 10 ((bs.drop k).take (b - k)) 0 with hf | ⟨i, hi, h10, hno, hf⟩
      · have hx : lineAt bs k b = (k, b, b) := by unfold lineAt; rw [hf]; rfl
        have HX' : Hid (linesN m₀ bs a b = (pre ++ [(k, b, b)]) ++ linesN m bs b b) := by
          show _ = _; rw [HX.out]; simp [linesN, hlt, hx]
        rw [hf] at CI
        clear hf hx HX
        obtain ⟨fn, tmps, assign, body, hy, hR⟩ := hY pre (k, b, b) wr HJ.out (by omega)
        clear hY
        unfold lineV lineO at hy
        dsimp only at hy
        gi_wp2_with (refine ⟨trivial, (fun h => (by cases h)), ?_⟩; gi_at_call 230; refine (callsIn_wide.2 (CI _ (Below.heap_alloc wr _ bb hbb'))).mono ?_; rintro e w' ⟨rfl, rfl⟩)
        refine ⟨fun h => (by cases h), ?_⟩
        refine hR.mono ?_
        rintro e W3 ⟨rfl, hJ3, hB3, hr3⟩
        have hn3 : W3.cell? ⟨wr.heap.size, 2, none⟩ = some (.int .i64 b) := by simp [World.cell?, hr3, lineO]
        have HR := Lib.hid hr3
        have HJ3 := Lib.hid hJ3
        clear hr3 hJ3
        gi_wp2
        go_roundw
        case rel => exact ⟨b, m, _, Nat.le_refl _, by simp; omega, by omega, rfl, HX'.out, HJ3.out, HB.out.trans hB3⟩
        case measure => simp [intOf]; omega
      · have hi' : i < b - k := by have := List.length_take_le (b - k) (bs.drop k); omega
        simp only [Nat.zero_add] at hf
        clear h10 hno
        by_cases hi0 : i = 0
        · subst hi0
          have hx : lineAt bs k b = (k, k, k + 1) := by unfold lineAt; rw [hf]; simp
          have HX' : Hid (linesN m₀ bs a b = (pre ++ [(k, k, k + 1)]) ++ linesN m bs (k + 1) b) := by
            show _ = _; rw [HX.out]; simp [linesN, hlt, hx]
          rw [hf] at CI
          clear hf hx HX
          obtain ⟨fn, tmps, assign, body, hy, hR⟩ := hY pre (k, k, k + 1) wr HJ.out (by omega)
          clear hY
          unfold lineV lineO at hy
          dsimp only at hy
          unfold lineO at hR
          dsimp only at hR
          rw [show ((k + 1 : Nat) : Int) = (k : Int) + 1 from by omega] at hy hR
          gi_wp2_with (refine ⟨trivial, (fun h => (by cases h)), ?_⟩; gi_at_call 230; refine (callsIn_wide.2 (CI _ (Below.heap_alloc wr _ bb hbb'))).mono ?_; rintro e w' ⟨rfl, rfl⟩)
          refine ⟨fun h => (by cases h), ?_⟩
          refine hR.mono ?_
          rintro e W3 ⟨rfl, hJ3, hB3, hr3⟩
          have hn3 : W3.cell? ⟨wr.heap.size, 2, none⟩ = some (.int .i64 ((k + 1 : Nat) : Int)) := by simp [World.cell?, hr3]
          have HR := Lib.hid hr3
          have HJ3 := Lib.hid hJ3
          clear hr3 hJ3
          gi_wp2
          go_roundw
          case rel => exact ⟨k + 1, m, _, by omega, by simp; omega, by omega, by go_num, HX'.out, HJ3.out, HB.out.trans hB3⟩
          case measure => simp [intOf]; omega
        by_cases h13 : bs[k + i - 1]? = some 13
        · have hx : lineAt bs k b = (k, k + i - 1, k + i + 1) := by rw [lineAt_some hf, if_pos ⟨by omega, h13⟩]
          have HX' : Hid (linesN m₀ bs a b = (pre ++ [(k, k + i - 1, k + i + 1)]) ++ linesN m bs (k + i + 1) b) := by
            show _ = _; rw [HX.out]; simp [linesN, hlt, hx]
          rw [hf] at CI
          clear hf hx HX
          obtain ⟨fn, tmps, assign, body, hy, hR⟩ := hY pre (k, k + i - 1, k + i + 1) wr HJ.out (by omega)
          clear hY
          unfold lineV lineO at hy
          dsimp only at hy
          unfold lineO at hR
          dsimp only at hR
          rw [show ((k + i - 1 : Nat) : Int) = (k : Int) + (i : Int) - 1 from by omega] at hy hR
          rw [show ((k + i + 1 : Nat) : Int) = (k : Int) + (i : Int) + 1 from by omega] at hy hR
          have hcl := HC.out (k + i - 1) (by omega)
          rw [h13] at hcl
          gi_wp2_with (refine ⟨trivial, (fun h => (by cases h)), ?_⟩; gi_at_call 230; refine (callsIn_wide.2 (CI _ (Below.heap_alloc wr _ bb hbb'))).mono ?_; rintro e w' ⟨rfl, rfl⟩)
          refine ⟨fun h => (by cases h), ?_⟩
          refine hR.mono ?_
          rintro e W3 ⟨rfl, hJ3, hB3, hr3⟩
          have hn3 : W3.cell? ⟨wr.heap.size, 2, none⟩ = some (.int .i64 ((k + i + 1 : Nat) : Int)) := by simp [World.cell?, hr3]
          have HR := Lib.hid hr3
          have HJ3 := Lib.hid hJ3
          clear hr3 hJ3
          gi_wp2
          go_roundw
          case rel => exact ⟨k + i + 1, m, _, by omega, by simp; omega, by omega, by go_num, HX'.out, HJ3.out, HB.out.trans hB3⟩
          case measure => simp [intOf]; omega
        · have hx : lineAt bs k b = (k, k + i, k + i + 1) := by rw [lineAt_some hf, if_neg (fun h => h13 h.2)]
          have HX' : Hid (linesN m₀ bs a b = (pre ++ [(k, k + i, k + i + 1)]) ++ linesN m bs (k + i + 1) b) := by
            show _ = _; rw [HX.out]; simp [linesN, hlt, hx]
          rw [hf] at CI
          clear hf hx HX
          obtain ⟨fn, tmps, assign, body, hy, hR⟩ := hY pre (k, k + i, k + i + 1) wr HJ.out (by omega)
          clear hY
          unfold lineV lineO at hy
          dsimp only at hy
          unfold lineO at hR
          dsimp only at hR
          rw [show ((k + i : Nat) : Int) = (k : Int) + (i : Int) from by omega] at hy hR
          rw [show ((k + i + 1 : Nat) : Int) = (k : Int) + (i : Int) + 1 from by omega] at hy hR
          have hcl := HC.out (k + i - 1) (by omega)
          obtain ⟨x, hx13⟩ : ∃ x, bs[k + i - 1]? = some x := ⟨_, List.getElem?_eq_getElem (by rw [HL.out]; omega)⟩
          have hne : ((x : Int) == 13) = false := by rw [hx13] at h13; simp at h13; simp; omega
          rw [hx13] at hcl
          clear h13 hx13
          gi_wp2_with (refine ⟨trivial, (fun h => (by cases h)), ?_⟩; gi_at_call 230; refine (callsIn_wide.2 (CI _ (Below.heap_alloc wr _ bb hbb'))).mono ?_; rintro e w' ⟨rfl, rfl⟩)
          refine ⟨fun h => (by cases h), ?_⟩
          refine hR.mono ?_
          rintro e W3 ⟨rfl, hJ3, hB3, hr3⟩
          have hn3 : W3.cell? ⟨wr.heap.size, 2, none⟩ = some (.int .i64 ((k + i + 1 : Nat) : Int)) := by simp [World.cell?, hr3]
          have HR := Lib.hid hr3
          have HJ3 := Lib.hid hJ3
          clear hr3 hJ3
          gi_wp2
          go_roundw
          case rel => exact ⟨k + i + 1, m, _, by omega, by simp; omega, by omega, by go_num, HX'.out, HJ3.out, HB.out.trans hB3⟩
          case measure => simp [intOf]; omega
    · clear hb0
      gi_wp2
      go_end0
      exact ⟨⟨_, rfl⟩, by rw [hxs, linesN_end _ _ _ _ hlt, List.append_nil]; exact hJ⟩
end Go.Proofs

/-
  lines.Of, walked: slices.AppendSeq over the lines' iterator, slices.Collect, lines.all, lines.Within, lines.Of.
-/
namespace Go.Proofs
open Go.RowKit Go.Shelf
attribute [local go_sem] Oper.semAt_some

def lapAssign : Code := (Code.region 2 #[{ dst := some 5, op := Op.alloc 196, type := 0, pos := "iter.go:51", after := #[], guard := none }, { dst := none, op := Op.store 196 (Operand.tmp 5) (Operand.tmp 7), type := 0, pos := "iter.go:51", after := #[{ on := 0, ground := Ground.data }, { on := 0, ground := Ground.phase }], guard := none }] false)
def lapBody : Code := (Code.block 1 (Code.region 3 #[{ dst := some 8, op := Op.load 194 (Operand.tmp 2), type := 194, pos := "iter.go:52", after := #[], guard := none }, { dst := some 9, op := Op.load 196 (Operand.tmp 5), type := 196, pos := "iter.go:52", after := #[], guard := none }, { dst := some 10, op := Op.buildSlice 194 1 #[(0, Operand.tmp 9)], type := 194, pos := "iter.go:52", after := #[{ on := 1, ground := Ground.data }], guard := none }, { dst := some 11, op := Op.call { callee := Callee.builtin Builtin.append, args := #[Operand.tmp 8, Operand.tmp 10], argTypes := #[194, 194] }, type := 194, pos := "iter.go:52", after := #[{ on := 0, ground := Ground.data }, { on := 2, ground := Ground.data }], guard := none }, { dst := none, op := Op.store 194 (Operand.tmp 2) (Operand.tmp 11), type := 0, pos := "iter.go:52", after := #[{ on := 3, ground := Ground.data }, { on := 3, ground := Ground.chain }, { on := 0, ground := Ground.phase }, { on := 1, ground := Ground.phase }, { on := 2, ground := Ground.phase }, { on := 3, ground := Ground.phase }], guard := none }] false))
def lapRec (fn : FuncId) (sv : Value) (Bs D : Nat) (st : LoopState) (pend : Option Code) : Loop :=
  { state := st, pending := pend, fn, tmps := #[.slice none 0 0, sv, .pointer (some ⟨Bs, 0, none⟩), undef, .slice none 0 0, undef, sv, undef, undef, undef, undef, undef, undef], params := #[7], assign := lapAssign, body := lapBody, defers := D }

/-- The cells of some lines. -/
def lineCs : List (Nat × Nat × Nat) → List Value
  | [] => []
  | x :: r => .int .i64 x.1 :: .int .i64 x.2.1 :: .int .i64 x.2.2 :: lineCs r
theorem lineCs_append (a b : List (Nat × Nat × Nat)) : lineCs (a ++ b) = lineCs a ++ lineCs b := by
  induction a with
  | nil => rfl
  | cons x r ih => simp [lineCs, ih]

structure LapAt (w0 : World) (fn : FuncId) (sv : Value) (Bs l D : Nat) (ss : List (Nat × Nat × Nat)) (W : World) : Prop where
  box : ∃ v, Boxed W Bs 194 v ∧ W.ownsRow w0.heap.size 196 3 v ss.length (lineCs ss) ∧ (v = .slice none 0 0 ↔ ss = [])
  L : W.heap[l]? = some (.loop (lapRec fn sv Bs D .ready none))
  K : W.heap[D]? = some (.deferred (some []))
  below : Below w0.heap.size w0 W

theorem Tryz.info196 : (Tryz.prog.info? 196).map (fun i => (i.zero, i.size, i.bytes)) = some (some (.agg #[.int .i64 0, .int .i64 0, .int .i64 0]), 3, 24) := by kernel_rfl

/-- Three new cells. -/
theorem cell_three_new (w : World) (x y z : Value) (t : TypeId) : ∀ j u, [x, y, z][j]? = some u → (w.alloc (.cells #[x, y, z] t)).cell? ((⟨w.heap.size, 0, none⟩ : Addr).add j) = some u := by
  intro j u hj
  have h : (w.alloc (.cells #[x, y, z] t)).heap[w.heap.size]? = some (.cells #[x, y, z] t (0, 0)) := World.alloc_heap_new w _
  have ha : ((⟨w.heap.size, 0, none⟩ : Addr).add j) = ⟨w.heap.size, j, none⟩ := by simp [Addr.add]; intro h; exact h.symm
  rw [ha]
  simp only [World.cell?, h]
  match j, hj with
  | 0, hj => simpa using hj
  | 1, hj => simpa using hj
  | 2, hj => simpa using hj

set_option maxRecDepth 100000 in
set_option maxHeartbeats 2000000 in
theorem Tryz.lapYield (m : Nat) (w0 : World) (fn : FuncId) (sv : Value) (Bs l D : Nat) (hBl : Bs ≠ l) (hDl : D ≠ l) (_hDB : D ≠ Bs) (h0B : w0.heap.size ≤ Bs) (h0l : w0.heap.size ≤ l)
    (ss : List (Nat × Nat × Nat)) (x : Nat × Nat × Nat) (hN : ss.length < 4294967296) (W0 : World) (h : LapAt w0 fn sv Bs l D ss W0) :
    YieldAt Fence.wide m Tryz.prog l #[lineV x] (W0.alloc (lineO x)) fun e W' => e = .returned (.bool true) ∧ LapAt w0 fn sv Bs l D (ss ++ [x]) W' ∧ Below w0.heap.size W0 W' ∧ W'.heap[W0.heap.size]? = some (lineO x) := by
  obtain ⟨i0, hi, hz0, hz1, hz2⟩ := info_parts Tryz.info196
  obtain ⟨W, hW⟩ : ∃ W, W0.alloc (lineO x) = W := ⟨_, rfl⟩
  have hr0 : W.heap[W0.heap.size]? = some (lineO x) := by rw [← hW]; exact World.alloc_heap_new W0 _
  have hz : W.heap.size = W0.heap.size + 1 := by rw [← hW]; simp
  obtain ⟨v, hv0, hrow0, hnil⟩ := h.box
  have hv : Boxed W Bs 194 v := by rw [← hW]; exact hv0.alloc _
  have hrow : W.ownsRow w0.heap.size 196 3 v ss.length (lineCs ss) := by rw [← hW]; exact hrow0.alloc _
  have hL : W.heap[l]? = some (.loop (lapRec fn sv Bs D .ready none)) := by rw [← hW]; exact (Below.heap_alloc W0 _ l (Array.getElem?_eq_some_iff.1 h.L).1).trans h.L
  have hK : W.heap[D]? = some (.deferred (some [])) := by rw [← hW]; exact (Below.heap_alloc W0 _ D (Array.getElem?_eq_some_iff.1 h.K).1).trans h.K
  have hBW : Below w0.heap.size W0 W := by rw [← hW]; exact (Below.refl _ _).alloc h.below.size _
  have hlW0 : l < W0.heap.size := (Array.getElem?_eq_some_iff.1 h.L).1
  have hBW0 : Bs < W0.heap.size := hv0.lt
  have hsz0 := h.below.size
  have hbelow := h.below
  rw [hW]
  refine ⟨fn, #[.slice none 0 0, sv, .pointer (some ⟨Bs, 0, none⟩), undef, .slice none 0 0, undef, sv, lineV x, undef, undef, undef, undef, undef], lapAssign, lapBody, by simpa [lapRec] using run_yield (P := Tryz.prog) (args := #[lineV x]) hL rfl, roundIn_of_wpIn trivial ?_⟩
  clear h
  obtain ⟨W1, hW1⟩ : ∃ W1, W.alloc (lineO x) = W1 := ⟨_, rfl⟩
  have hv1 : Boxed W1 Bs 194 v := by rw [← hW1]; exact hv.alloc _
  have hrow1 : W1.ownsRow w0.heap.size 196 3 v ss.length (lineCs ss) := by rw [← hW1]; exact hrow.alloc _
  have hL1 : W1.heap[l]? = some (.loop (lapRec fn sv Bs D .ready none)) := by rw [← hW1]; exact (Below.heap_alloc W _ l (by omega)).trans hL
  have hK1 : W1.heap[D]? = some (.deferred (some [])) := by rw [← hW1]; exact (Below.heap_alloc W _ D (Array.getElem?_eq_some_iff.1 hK).1).trans hK
  have hr1 : W1.heap[W0.heap.size]? = some (lineO x) := by rw [← hW1]; exact (Below.heap_alloc W _ _ (by omega)).trans hr0
  have hx1 : W1.heap[W0.heap.size + 1]? = some (lineO x) := by rw [← hW1, ← hz]; exact World.alloc_heap_new W _
  have hz1' : W1.heap.size = W0.heap.size + 2 := by rw [← hW1]; simp; omega
  have hB1 : Below w0.heap.size W0 W1 := by rw [← hW1]; exact hBW.alloc (by have := hBW.size; have := hsz0; omega) _
  have hbr := run_beginRound (P := Tryz.prog) hL1 rfl
  obtain ⟨W2, hW2⟩ : ∃ W2, W1.putObj l (.loop { lapRec fn sv Bs D .ready none with state := .busy }) = W2 := ⟨_, rfl⟩
  rw [hW2] at hbr
  have hg2 : W1.grownBy W2 (some l) := by rw [← hW2]; exact grownBy_putObj' _ _ _
  have hv2 : Boxed W2 Bs 194 v := hv1.kept hg2 (by simpa using hBl)
  have hK2 : W2.heap[D]? = some (.deferred (some [])) := by rw [← hW2]; exact (World.putObj_heap_other hDl).trans hK1
  have hL2 : W2.heap[l]? = some (.loop { lapRec fn sv Bs D .ready none with state := .busy }) := by rw [← hW2]; exact World.putObj_heap_same (by omega)
  have hrow2 : W2.ownsRow w0.heap.size 196 3 v ss.length (lineCs ss) := by rw [← hW2]; exact ownsRow_putObj hrow1 _ hL1 rfl
  have hr2 : W2.heap[W0.heap.size]? = some (lineO x) := by rw [← hW2]; exact (World.putObj_heap_other (by omega)).trans hr1
  have hx2 : W2.heap[W0.heap.size + 1]? = some (lineO x) := by rw [← hW2]; exact (World.putObj_heap_other (by omega)).trans hx1
  have hz2' : W2.heap.size = W0.heap.size + 2 := by rw [← hW2]; simpa using hz1'
  have hB2 : Below w0.heap.size W0 W2 := hB1.grown hg2 (by omega) (fun k e => by cases e; exact h0l)
  clear hW2 hg2 hB1 hr1 hx1 hK1 hL1 hrow1 hv1 hBW
  have hnr : some W0.heap.size ≠ v.ownBlock := by
    intro e
    rcases hrow0.2 with ⟨rfl, _⟩ | ⟨g', cap', cur, rfl, _, hgb, _⟩
    · simp [Value.ownBlock] at e
    · have := (Array.getElem?_eq_some_iff.1 hgb).1
      simp [Value.ownBlock] at e
      omega
  have HR := Lib.hid hr2
  have HB2 := Lib.hid hB2
  have HV := Lib.hid hnr
  have HK2 := Lib.hid hK2
  have HL2 := Lib.hid hL2
  have HROW := Lib.hid hrow2
  have HNIL := Lib.hid hnil
  have HBL := Lib.hid hbelow
  clear hbelow
  clear hr2 hB2 hnr hK2 hL2 hrow2 hnil hr0 hv0 hrow0 hv hrow hL hK
  have hc2 := hv2.cell
  have hBs2 : Bs < W2.heap.size := hv2.lt
  have c0 : W2.cell? ⟨W0.heap.size + 1, 0, none⟩ = some (.int .i64 x.1) := by simp [World.cell?, hx2, lineO]
  have c1 : W2.cell? ⟨W0.heap.size + 1, 1, none⟩ = some (.int .i64 x.2.1) := by simp [World.cell?, hx2, lineO]
  have c2 : W2.cell? ⟨W0.heap.size + 1, 2, none⟩ = some (.int .i64 x.2.2) := by simp [World.cell?, hx2, lineO]
  have HX2 := Lib.hid hx2
  have hzl : W0.heap.size + 2 ≤ W2.heap.size := by omega
  clear hx2 hz1' hz2'
  unfold lapAssign lineV
  unfold lineO at hW1
  gi_wp2
  clear hbr hW1
  unfold lapBody
  gi_wp2_with (gi_at_builtin; refine wpListIn_append_own _ rfl _ _ 194 rfl w0.heap.size 196 i0 (.agg #[.int .i64 0, .int .i64 0, .int .i64 0]) 3 24 Tryz.underlying194 hi hz0 hz1 hz2 rfl (by decide) _ _ _ rfl (HROW.out.alloc _) ⟨W2.heap.size, 0, none⟩ 1 1 [.int .i64 x.1, .int .i64 x.2.1, .int .i64 x.2.2] rfl rfl (cell_three_new _ _ _ _ _) (by simp [Value.oneCell']) (by unfold maxLen; omega) (by omega) (by simp; omega) ?_; intro v' w1 hown' hgrow _; obtain ⟨g', cap', rfl⟩ := ownsRow_succ hown'; obtain ⟨hv3, hv4, hrow4, hk4, hb4⟩ := hv2.appended (by decide) HROW.out (by omega) h0B hown' hgrow; have hc3 := hv3.cell; have hf3 := hv3.frozen)
  have hgrow' : (W2.alloc (.cells #[.int .i64 x.1, .int .i64 x.2.1, .int .i64 x.2.2] 196)).grownBy w1 v.ownBlock := hgrow
  have hr3 : w1.heap[W0.heap.size]? = some (lineO x) := (hgrow'.block _ (by simp; omega) HV.out).trans ((Below.heap_alloc W2 _ _ (by omega)).trans HR.out)
  obtain ⟨W4, hW4⟩ : ∃ W4, w1.setCell ⟨Bs, 0, none⟩ (.slice (some ⟨g', 0, none⟩) (ss.length + 1) cap') = W4 := ⟨_, rfl⟩
  have hr4 : W4.heap[W0.heap.size]? = some (lineO x) := by rw [← hW4]; exact (Below.heap_setCell _ _ _ _ (by simp; omega)).trans hr3
  rw [hW4] at hv4 hrow4 hk4 hb4
  rw [hW4]
  clear hW4
  have hL4 := hk4.same _ _ HL2.out rfl
  have hK4 := hk4.same _ _ HK2.out rfl
  have hl4 : l < W4.heap.size := (Array.getElem?_eq_some_iff.1 hL4).1
  have hB4 : Below w0.heap.size W0 W4 := HB2.out.trans hb4
  have hB5 := hB4.grown (grownBy_putObj' W4 l (.loop (lapRec fn sv Bs D .ready none))) (by omega) (fun k e => by cases e; exact h0l)
  exact ⟨_, _, run_endRound none hL4, rfl, ⟨⟨_, hv4.kept (grownBy_putObj' _ _ _) (by simpa using hBl), by rw [lineCs_append]; simpa [lineCs] using ownsRow_putObj hrow4 _ hL4 rfl, by simp⟩, World.putObj_heap_same hl4, (World.putObj_heap_other hDl).trans hK4, HBL.out.trans hB5⟩,
    hB5, (World.putObj_heap_other (by omega)).trans hr4⟩

theorem linesN_length : ∀ (m : Nat) (bs : List Nat) (a b : Nat), (linesN m bs a b).length ≤ m
  | 0, _, _, _ => Nat.le_refl _
  | m + 1, bs, a, b => by
    simp only [linesN]
    split
    · have := linesN_length m bs (lineAt bs a b).2.2 b
      simp; omega
    · simp

set_option maxRecDepth 100000 in
set_option maxHeartbeats 2000000 in
theorem Tryz.lapSeq_in (n : Nat) (w : World) (Ba Bb bb o len cap a b : Nat) (bs : List Nat) (hl : bs.length = len) (hlen : len < 4294967296) (hcap : len ≤ cap) (hab : a ≤ b) (hb : b ≤ len) (hbb : a < b → bb < w.heap.size) (hBa : Ba < w.heap.size) (hBb : Bb < w.heap.size)
    (ha0 : w.cell? ⟨Ba, 0, none⟩ = some (.int .i64 a)) (ha1 : w.cell? ⟨Ba, 1, none⟩ = some (.int .i64 b)) (hb0 : a < b → w.cell? ⟨Bb, 0, none⟩ = some (.slice (some ⟨bb, o, none⟩) len cap))
    (hc : ∀ j, j < len → w.cell? ⟨bb, o + j, none⟩ = some (.int .u8 (bs[j]?.getD 0))) :
    CallsIn Fence.wide n Tryz.prog 228 #[.slice none 0 0, .func (.func 229) #[] #[.pointer (some ⟨Ba, 0, none⟩), .pointer (some ⟨Bb, 0, none⟩)]] w fun e w' => ∃ v, e = .returned v ∧ w'.ownsRow w.heap.size 196 3 v (linesN (b - a) bs a b).length (lineCs (linesN (b - a) bs a b)) ∧ (v = .slice none 0 0 ↔ linesN (b - a) bs a b = []) ∧ Below w.heap.size w w' := by
  generalize hsv : Value.func (.func 229) #[] #[.pointer (some ⟨Ba, 0, none⟩), .pointer (some ⟨Bb, 0, none⟩)] = sv
  refine callsIn_of_wp_marks Tryz.func228 rfl trivial ?_ rfl
  simp only [Tryz.ntmps228, List.size_toArray, List.length_cons, List.length_nil, Nat.reduceAdd, Nat.reduceSub, Array.replicate_succ, Array.replicate_zero, List.push_toArray, List.append_toArray, List.nil_append, List.cons_append]
  have HC := Lib.hid hc
  have HL := Lib.hid hl
  have HA0 := Lib.hid ha0
  have HA1 := Lib.hid ha1
  have HB0 := Lib.hid hb0
  have HSV := Lib.hid hsv
  clear hc hl ha0 ha1 hb0 hsv
  gi_wp2
  refine wpIn_rangeFunc ?_
  intro fn hfn
  obtain ⟨W0, hW0⟩ : ∃ W0, w.alloc (.cells #[.slice none 0 0] 194) = W0 := ⟨_, rfl⟩
  have hs0 : W0.heap.size = w.heap.size + 1 := by rw [← hW0]; simp
  have hv0 : Boxed W0 w.heap.size 194 (.slice none 0 0) := by rw [← hW0]; exact Boxed.new _ _ _
  have hb0 : Below w.heap.size w W0 := by rw [← hW0]; exact (Below.refl _ w).alloc (Nat.le_refl _) _
  rw [hW0]
  obtain ⟨W1, hW1⟩ : ∃ W1, (W0.alloc (.deferred (some []))).alloc (.loop (lapRec fn sv w.heap.size W0.heap.size .ready none)) = W1 := ⟨_, rfl⟩
  have hold : ∀ k, k < W0.heap.size → W1.heap[k]? = W0.heap[k]? := fun k hk => by
    rw [← hW1]; exact (Below.heap_alloc _ _ k (by simp; omega)).trans (Below.heap_alloc _ _ k hk)
  have hb1 : Below w.heap.size w W1 := by rw [← hW1]; exact (hb0.alloc hb0.size _).alloc (by have := hb0.size; simp; omega) _
  have hs1 : W1.heap.size = W0.heap.size + 2 := by rw [← hW1]; simp
  have hM : LapAt w fn sv w.heap.size (W0.heap.size + 1) W0.heap.size [] W1 :=
    ⟨⟨_, (hold w.heap.size (by omega)).trans hv0, ⟨rfl, .inl ⟨rfl, rfl⟩⟩, by simp⟩,
     by rw [← hW1]; have := World.alloc_heap_new (W0.alloc (.deferred (some []))) (.loop (lapRec fn sv w.heap.size W0.heap.size .ready none)); rwa [World.size_alloc] at this,
     by rw [← hW1]; exact (Below.heap_alloc _ _ _ (by simp)).trans (World.alloc_heap_new W0 _), hb1⟩
  refine ⟨W0.heap.size + 1, [{ target := .collected W0.heap.size, args := #[] }], W1, { target := .fn (.func 229) #[.pointer (some ⟨Ba, 0, none⟩), .pointer (some ⟨Bb, 0, none⟩)], args := #[.func (.yield (W0.heap.size + 1)) #[] #[]] }, W1, 229,
    #[.func (.yield (W0.heap.size + 1)) #[] #[]] ++ #[.pointer (some ⟨Ba, 0, none⟩), .pointer (some ⟨Bb, 0, none⟩)], W1, ?_, ?_, ?_, ?_, fun h => (by cases h), ?_⟩
  · rw [← hW1]; exact run_enterLoop_outer _ _ _ _ _
  · rw [← HSV.out]; simp [resolve, go_sem]
  · intro f' hf'; trivial
  · simp [invoke, go_sem]
  · refine (Tryz.all1_in (n - 1) (W0.heap.size + 1) Ba Bb w.heap.size bb o len cap a b (b - a) bs HL.out (by unfold maxLen; omega) hcap hab hb (Nat.le_refl _) hbb hBa hBb (LapAt w fn sv w.heap.size (W0.heap.size + 1) W0.heap.size)
      (fun pre x W hJ hlt => (Tryz.lapYield (n - 1 - 1) w fn sv w.heap.size (W0.heap.size + 1) W0.heap.size (by omega) (by omega) (by omega) (Nat.le_refl _) (by omega) pre x (by omega) W hJ)) W1 hb1.size
      ((hb1.cell (p := ⟨Ba, 0, none⟩) hBa).trans HA0.out) ((hb1.cell (p := ⟨Ba, 1, none⟩) hBa).trans HA1.out) (fun h => (hb1.cell (p := ⟨Bb, 0, none⟩) hBb).trans (HB0.out h)) (fun j hj => (hb1.cell (p := ⟨bb, o + j, none⟩) (World.block_lt_of_cell? w _ (HC.out j hj))).trans (HC.out j hj)) hM).mono ?_
    rintro e W2 ⟨⟨v0, rfl⟩, h2⟩
    obtain ⟨v, hv, hrow, hnil⟩ := h2.box
    have hend := run_endLoop (P := Tryz.prog) h2.L (by simp [lapRec])
    obtain ⟨W3, hW3⟩ : ∃ W3, W2.putObj (W0.heap.size + 1) (.loop { lapRec fn sv w.heap.size W0.heap.size .ready none with state := .exhausted }) = W3 := ⟨_, rfl⟩
    rw [hW3] at hend
    have hg3 : W2.grownBy W3 (some (W0.heap.size + 1)) := by rw [← hW3]; exact grownBy_putObj' _ _ _
    have hv3 : Boxed W3 w.heap.size 194 v := hv.kept hg3 (by simp; omega)
    have hK3 : W3.heap[W0.heap.size]? = some (.deferred (some [])) := by rw [← hW3]; exact (World.putObj_heap_other (by omega)).trans h2.K
    have hrow3 : W3.ownsRow w.heap.size 196 3 v (linesN (b - a) bs a b).length (lineCs (linesN (b - a) bs a b)) := by rw [← hW3]; exact ownsRow_putObj hrow _ h2.L rfl
    have hb3 : Below w.heap.size w W3 := h2.below.grown hg3 h2.below.size (fun k e => by cases e; omega)
    have hc3 := hv3.cell
    have hf3 := hv3.frozen
    clear hW3
    refine ⟨none, W3, hend, ?_⟩
    have HEND := Lib.hid hend
    have HNIL := Lib.hid hnil
    have HROW := Lib.hid hrow3
    have HB3 := Lib.hid hb3
    have HK3 := Lib.hid hK3
    have HS0 := Lib.hid hs0
    clear hend hnil hrow3 hb3 hK3 hs0
    gi_wp2
    first | rw [← HS0.out] | skip
    refine ⟨by simp, .inl ⟨_, _, rfl, run_takeDeferred HK3.out, ?_⟩⟩
    exact ⟨_, results_tmp rfl _ _ _, v, rfl, ownsRow_putObj HROW.out _ HK3.out rfl, HNIL.out, HB3.out.grown (grownBy_putObj' _ _ _) HB3.out.size (fun k e => by cases e; have := HS0.out; omega)⟩

set_option maxHeartbeats 1000000 in
theorem Tryz.collect_in (n : Nat) (w : World) (Ba Bb bb o len cap a b : Nat) (bs : List Nat) (hl : bs.length = len) (hlen : len < 4294967296) (hcap : len ≤ cap) (hab : a ≤ b) (hb : b ≤ len) (hbb : a < b → bb < w.heap.size) (hBa : Ba < w.heap.size) (hBb : Bb < w.heap.size)
    (ha0 : w.cell? ⟨Ba, 0, none⟩ = some (.int .i64 a)) (ha1 : w.cell? ⟨Ba, 1, none⟩ = some (.int .i64 b)) (hb0 : a < b → w.cell? ⟨Bb, 0, none⟩ = some (.slice (some ⟨bb, o, none⟩) len cap))
    (hc : ∀ j, j < len → w.cell? ⟨bb, o + j, none⟩ = some (.int .u8 (bs[j]?.getD 0))) :
    CallsIn Fence.wide n Tryz.prog 186 #[.func (.func 229) #[] #[.pointer (some ⟨Ba, 0, none⟩), .pointer (some ⟨Bb, 0, none⟩)]] w fun e w' => ∃ v, e = .returned v ∧ w'.ownsRow w.heap.size 196 3 v (linesN (b - a) bs a b).length (lineCs (linesN (b - a) bs a b)) ∧ (v = .slice none 0 0 ↔ linesN (b - a) bs a b = []) ∧ Below w.heap.size w w' := by
  have H := fun n => Tryz.lapSeq_in n w Ba Bb bb o len cap a b bs hl hlen hcap hab hb hbb hBa hBb ha0 ha1 hb0 hc
  refine callsIn_of_wp Tryz.func186 rfl trivial ?_ rfl
  simp only [Tryz.ntmps186, List.size_toArray, List.length_cons, List.length_nil, Nat.reduceAdd, Nat.reduceSub, Array.replicate_succ, Array.replicate_zero, List.push_toArray, List.append_toArray, List.nil_append, List.cons_append]
  clear hc hl ha0 ha1 hb0
  gi_wp2_with (refine ⟨trivial, (fun h => (by cases h)), ?_⟩; gi_at_call 228; refine (H _).mono ?_; clear H; rintro e w' ⟨v, rfl, hrow, hnil, hb⟩; have HROW := Lib.hid hrow; have HNIL := Lib.hid hnil; have HB := Lib.hid hb; clear hrow hnil hb)
  go_ret
  exact ⟨_, rfl, HROW.out, HNIL.out, HB.out⟩

theorem Tryz.all_any (ad : Option Addr) (len cap : Nat) (a b : Int) (w : World) :
    Calls Tryz.prog 187 #[.slice ad len cap, .agg #[.int .i64 a, .int .i64 b]] w fun e w' => e = .returned (.func (.func 229) #[] #[.pointer (some ⟨w.heap.size + 1, 0, none⟩), .pointer (some ⟨w.heap.size, 0, none⟩)]) ∧ w' = (w.alloc (.cells #[.slice ad len cap] 43)).alloc (.cells #[.int .i64 a, .int .i64 b] 78) := by
  go_enter Tryz.func187, Tryz.ntmps187
  go_wp2
  go_ret
  exact ⟨rfl, rfl⟩

theorem Tryz.within_any (a b n : Int) (w : World) :
    Calls Tryz.prog 185 #[.agg #[.int .i64 a, .int .i64 b], .int .i64 n] w fun e w' => e = .returned (.bool (decide (0 ≤ a ∧ a ≤ b ∧ b ≤ n))) ∧ w' = w.alloc (.cells #[.int .i64 a, .int .i64 b] 78) := by
  by_cases h1 : 0 ≤ a
  · by_cases h2 : a ≤ b
    · by_cases h3 : b ≤ n
      all_goals
        go_enter Tryz.func185, Tryz.ntmps185
        go_wp2
        go_ret
        exact ⟨by simp; omega, rfl⟩
    · go_enter Tryz.func185, Tryz.ntmps185
      go_wp2
      go_ret
      exact ⟨by simp; omega, rfl⟩
  · go_enter Tryz.func185, Tryz.ntmps185
    go_wp2
    go_ret
    exact ⟨by simp; omega, rfl⟩

theorem ownsRow_base' {W : World} {base base' : Nat} {e : TypeId} {size : Nat} {v : Value} {k : Nat} {xs : List Value} (h : W.ownsRow base e size v k xs) (hb : base' ≤ base) : W.ownsRow base' e size v k xs := by
  refine ⟨h.1, ?_⟩
  rcases h.2 with hn | ⟨g, cap, cur, hv, hbg, rest⟩
  · exact .inl hn
  · exact .inr ⟨g, cap, cur, hv, Nat.le_trans hb hbg, rest⟩

set_option maxRecDepth 100000 in
set_option maxHeartbeats 1000000 in
theorem Tryz.of_no (ad : Option Addr) (len cap : Nat) (a b : Int) (h : ¬ (0 ≤ a ∧ a ≤ b ∧ b ≤ (len : Int))) (w : World) :
    Calls Tryz.prog 134 #[.slice ad len cap, .agg #[.int .i64 a, .int .i64 b]] w fun e w' => e = .returned (.slice none 0 0) ∧ Below w.heap.size w w' := by
  have H : ∀ X : World, Calls Tryz.prog 185 #[.agg #[.int .i64 a, .int .i64 b], .int .i64 len] X fun e w' => e = .returned (.bool false) ∧ w' = X.alloc (.cells #[.int .i64 a, .int .i64 b] 78) := fun X => by
    have := Tryz.within_any a b len X
    rw [decide_eq_false h] at this
    exact this
  clear h
  go_enter Tryz.func134, Tryz.ntmps134
  go_wp2_with (go_at_call 185; refine (H _).mono ?_; rintro e w' ⟨rfl, rfl⟩)
  go_ret
  exact ⟨rfl, ((Below.refl _ _).alloc (Nat.le_refl _) _).alloc (by simp) _⟩

set_option maxRecDepth 100000 in
set_option maxHeartbeats 1000000 in
theorem Tryz.of_yes (ad : Option Addr) (bb o len cap a b : Nat) (bs : List Nat) (hl : bs.length = len) (hlen : len < 4294967296) (hcap : len ≤ cap) (hab : a ≤ b) (hb : b ≤ len) (w : World) (had : a < b → ad = some ⟨bb, o, none⟩)
    (hc : ∀ j, j < len → w.cell? ⟨bb, o + j, none⟩ = some (.int .u8 (bs[j]?.getD 0))) :
    Calls Tryz.prog 134 #[.slice ad len cap, .agg #[.int .i64 a, .int .i64 b]] w fun e w' => ∃ v, e = .returned v ∧ w'.ownsRow w.heap.size 196 3 v (linesN (b - a) bs a b).length (lineCs (linesN (b - a) bs a b)) ∧ (v = .slice none 0 0 ↔ linesN (b - a) bs a b = []) ∧ Below w.heap.size w w' := by
  have H : ∀ X : World, Calls Tryz.prog 185 #[.agg #[.int .i64 a, .int .i64 b], .int .i64 len] X fun e w' => e = .returned (.bool true) ∧ w' = X.alloc (.cells #[.int .i64 a, .int .i64 b] 78) := fun X => by
    have := Tryz.within_any a b len X
    rw [decide_eq_true (by omega)] at this
    exact this
  have HC0 : ∀ (X : World) (Ba Bb : Nat), Ba = X.heap.size + 1 → Bb = X.heap.size → w.heap.size ≤ X.heap.size → Below w.heap.size w X → Calls Tryz.prog 186 #[.func (.func 229) #[] #[.pointer (some ⟨Ba, 0, none⟩), .pointer (some ⟨Bb, 0, none⟩)]] ((X.alloc (.cells #[.slice ad len cap] 43)).alloc (.cells #[.int .i64 a, .int .i64 b] 78)) fun e w' => ∃ v, e = .returned v ∧ w'.ownsRow w.heap.size 196 3 v (linesN (b - a) bs a b).length (lineCs (linesN (b - a) bs a b)) ∧ (v = .slice none 0 0 ↔ linesN (b - a) bs a b = []) ∧ Below w.heap.size w w' := by
    intro X Ba Bb hBa hBb hX hB
    subst hBa hBb
    have hB2 : Below w.heap.size X ((X.alloc (.cells #[.slice ad len cap] 43)).alloc (.cells #[.int .i64 a, .int .i64 b] 78)) := ((Below.refl _ _).alloc hX _).alloc (by simp; omega) _
    have hB3 := hB.trans hB2
    have n1 : ((X.alloc (.cells #[.slice ad len cap] 43)).alloc (.cells #[.int .i64 a, .int .i64 b] 78)).heap[X.heap.size]? = some (.cells #[.slice ad len cap] 43 (0, 0)) := (Below.heap_alloc _ _ _ (by simp)).trans (World.alloc_heap_new X _)
    have n2 : ((X.alloc (.cells #[.slice ad len cap] 43)).alloc (.cells #[.int .i64 a, .int .i64 b] 78)).heap[X.heap.size + 1]? = some (.cells #[.int .i64 a, .int .i64 b] 78 (0, 0)) := by
      have := World.alloc_heap_new (X.alloc (.cells #[.slice ad len cap] 43)) (.cells #[.int .i64 a, .int .i64 b] 78)
      rwa [World.size_alloc] at this
    obtain ⟨Y, hY⟩ : ∃ Y, (X.alloc (.cells #[.slice ad len cap] 43)).alloc (.cells #[.int .i64 a, .int .i64 b] 78) = Y := ⟨_, rfl⟩
    have hYs : Y.heap.size = X.heap.size + 2 := by rw [← hY]; simp
    rw [hY] at hB2 hB3 n1 n2 ⊢
    clear hY
    have hcol := Tryz.collect_in 5 Y (X.heap.size + 1) X.heap.size bb o len cap a b bs hl hlen hcap hab hb
      (fun h => by have := World.block_lt_of_cell? w _ (hc 0 (by omega)); simp at this; omega) (by omega) (by omega) (by unfold World.cell?; simp only [n2]; rfl) (by unfold World.cell?; simp only [n2]; rfl)
      (fun h => by rw [had h] at n1; unfold World.cell?; simp only [n1]; rfl) (fun j hj => (hB3.cell (p := ⟨bb, o + j, none⟩) (World.block_lt_of_cell? w _ (hc j hj))).trans (hc j hj))
    refine Calls.mono (callsIn_wide.1 hcol) ?_
    rintro e w' ⟨v, rfl, h1, h2, h3⟩
    exact ⟨v, rfl, ownsRow_base' h1 (by omega), h2, hB3.trans (h3.mono (by omega))⟩
  have HC := Lib.hid HC0
  clear HC0 hc had hab hb hcap hl hlen
  go_enter Tryz.func134, Tryz.ntmps134
  go_wp2_with (first
    | (go_at_call 185; refine (H _).mono ?_; clear H; rintro e w' ⟨rfl, rfl⟩)
    | (go_at_call 187; refine (Tryz.all_any _ _ _ _ _ _).mono ?_; rintro e w' ⟨rfl, rfl⟩)
    | (go_at_call 186; refine (HC.out _ _ _ (by simp) (by simp) (by simp; omega) (((Below.refl _ _).alloc (Nat.le_refl _) _).alloc (by simp) _)).mono ?_; clear HC; rintro e w' ⟨v, rfl, hrow, hnil, hb⟩; have HROW := Lib.hid hrow; have HNIL := Lib.hid hnil; have HB := Lib.hid hb; clear hrow hnil hb))
  go_ret
  exact ⟨_, rfl, HROW.out, HNIL.out, HB.out⟩
end Go.Proofs

/-
  lines.Of, as the evaluator's oracle answers it.
-/
namespace Go.Proofs.YtnnclgadfbaldaaGreatDoor
open Go Go.Av Go.RowKit Go.Proofs
section
variable {G : Nat → Option (List AV)}

theorem lineCs_get : ∀ (l : List (Nat × Nat × Nat)) (i j : Nat) (x : Nat × Nat × Nat), l[i]? = some x → j < 3 → (lineCs l)[i * 3 + j]? = [Value.int .i64 x.1, .int .i64 x.2.1, .int .i64 x.2.2][j]?
  | [], i, j, x, h, _ => by simp at h
  | y :: r, 0, j, x, h, hj => by
    simp at h; subst h
    match j, hj with
    | 0, _ => rfl
    | 1, _ => rfl
    | 2, _ => rfl
  | y :: r, i + 1, j, x, h, hj => by
    have := lineCs_get r i j x (by simpa using h) hj
    have e : (i + 1) * 3 + j = (i * 3 + j) + 3 := by omega
    rw [e]
    simpa [lineCs] using this

theorem lines_top (l : List (Nat × Nat × Nat)) : topAll (l.map lineA) = 0 := by
  induction l with
  | nil => rfl
  | cons x r ih => simp [topAll, ih, lineA, lineAV, AV.top]
theorem lines_sized (l : List (Nat × Nat × Nat)) : sized 3 (l.map lineA) = true := by
  simp [sized, lineA, lineAV, AV.cells, isCell]

theorem linesOf_ok : FnOk G Tryz.prog (orcOf N0) 134 := by
  intro lim args H r H' hz ρ w vs hs hl hr ht
  refine ⟨⟨_, Tryz.func134, by kernel_rfl, by kernel_rfl⟩, ?_⟩
  simp only [orcOf, N0, if_true] at hz
  rw [if_neg (by decide), if_neg (by decide), if_neg (by decide), if_neg (by decide)] at hz
  split at hz
  · rename_i x a b
    simp only [Option.bind_eq_some_iff] at hz
    obtain ⟨es, hes, s, hbs, hz⟩ := hz
    split at hz
    case isFalse => cases hz
    rename_i hcond
    obtain ⟨hsame, hlen⟩ := hcond
    cases hz
    have hmap := sameAll_eq _ _ hsame
    subst hmap
    obtain ⟨u, v, rfl, h1, h2⟩ := args_two hl hr
    -- the span
    have hv : v = .agg #[.int .i64 a, .int .i64 b] := by
      obtain ⟨vs, rfl, hvl, hvr⟩ := h2.agg_inv
      obtain ⟨l⟩ := vs
      match l, hvl with
      | [p, q], _ =>
        have e1 := (hvr 0 _ p rfl rfl).int_inv
        have e2 := (hvr 1 _ q rfl rfl).int_inv
        rw [e1, e2]
    subst hv
    -- the bytes
    have hu : ∃ (ad : Option Addr) (bb o cap : Nat), u = .slice ad s.length cap ∧ s.length ≤ cap ∧ (0 < s.length → ad = some ⟨bb, o, none⟩) ∧ ∀ j, j < s.length → w.cell? ⟨bb, o + j, none⟩ = some (.int .u8 ((s.map UInt8.toNat)[j]?.getD 0)) := by
      obtain ⟨_, ⟨rfl, h⟩ | ⟨A, cap, sz, rfl, k1, k2, k3, k4, k5⟩⟩ := elems_sound hs h1 hes
      · have : s = [] := by simpa using h
        subst this
        exact ⟨none, 0, 0, 0, rfl, Nat.le_refl _, fun h => by simp at h, fun j h => by simp at h⟩
      · refine ⟨some A, A.block, A.off, cap, by simp, by simpa using k1, fun h0 => ?_, fun j hj => ?_⟩
        · have := k4 (by intro e; have := congrArg List.length e; simp at this; simp [this] at h0)
          cases A; simp at this; simp [this]
        · have hsj : s[j]? = some s[j] := List.getElem?_eq_getElem hj
          have hs1 : sz = 1 := by
            obtain ⟨cs, hc, hl, _⟩ := sized_get k3 (i := j) (e := byteAV s[j]) (by simp [hsj])
            simp [byteAV, AV.cells] at hc; subst hc; simpa using hl.symm
          subst hs1
          obtain ⟨v', hv', hr'⟩ := k5 j (byteAV s[j]) [byteAV s[j]] (by simp [hsj]) rfl 0 _ rfl
          rw [hr'.int_inv] at hv'
          simpa [hsj] using hv'
    obtain ⟨ad, bb, o, cap, rfl, hcap, had, hc⟩ := hu
    by_cases hw : 0 ≤ a ∧ a ≤ b ∧ b ≤ (s.length : Int)
    · obtain ⟨a, rfl⟩ : ∃ n : Nat, a = n := ⟨a.toNat, by omega⟩
      obtain ⟨b, rfl⟩ : ∃ n : Nat, b = n := ⟨b.toNat, by omega⟩
      have hof := Tryz.of_yes ad bb o s.length cap a b (s.map UInt8.toNat) (by simp) hlen hcap (by omega) (by omega) w (fun h => had (by omega)) hc
      rw [linesAV_yes s a b (by omega) (by omega)]
      refine Calls.mono hof ?_
      rintro e w' ⟨v, rfl, hrow, hnil, hB⟩
      have hsim := sim_below hs hB
      refine ⟨v, ρ, none, rfl, hsim, fun l h => (by cases h), step_below hs hB, ?_, ?_⟩
      · generalize linesN (b - a) (s.map UInt8.toNat) a b = xs at hrow hnil
        cases xs with
        | nil => rw [hnil.2 rfl]; exact .nilslice
        | cons y ys =>
          rcases hrow.2 with ⟨rfl, h0⟩ | ⟨g, cap', cur, rfl, hbg, hgb, hle, hmax, hsize, htake⟩
          · simp at h0
          · refine .slice false _ _ (y :: ys).length cap' 3 (fun i j => (cur[i * 3 + j]?).getD undef) (by simp) hle (by simp) ?_ ?_ (by decide) (fun _ => ⟨rfl, fun b hb => ?_⟩) (fun i j hi hj => ?_) (fun i el cs j x hel hcs hj => ?_)
            · exact lines_top _
            · exact lines_sized _
            · have := (hs.dom b g hb).1; omega
            · have hlt : i * 3 + j < cur.size := by
                have : (i + 1) * 3 ≤ cap' * 3 := Nat.mul_le_mul_right _ (by simp at hi hle; omega)
                omega
              simp [World.cell?, hgb, hlt]
            · rw [List.getElem?_map, Option.map_eq_some_iff] at hel
              obtain ⟨z, hz, rfl⟩ := hel
              simp [lineA, lineAV, AV.cells] at hcs
              subst hcs
              have hi := lt_of_get hz
              have hj3 := lt_of_get hj
              have hcur : cur[i * 3 + j]? = [Value.int .i64 z.1, .int .i64 z.2.1, .int .i64 z.2.2][j]? := by
                rw [← lineCs_get _ i j z hz (by simpa using hj3), ← htake, List.getElem?_take, if_pos (by
                  have : (i + 1) * 3 ≤ (y :: ys).length * 3 := Nat.mul_le_mul_right _ hi
                  simp at hj3; omega)]
                simp
              rw [hcur]
              match j, hj3, hj with
              | 0, _, hj => simp at hj; subst hj; exact .int _ _
              | 1, _, hj => simp at hj; subst hj; exact .int _ _
              | 2, _, hj => simp at hj; subst hj; exact .int _ _
      · cases List.map lineA (linesN (b - a) (List.map UInt8.toNat s) a b) <;> simp [AV.top]
    · rw [linesAV_no s a b hw]
      refine Calls.mono (Tryz.of_no ad s.length cap a b hw w) ?_
      rintro e w' ⟨rfl, hB⟩
      exact ⟨_, ρ, none, rfl, sim_below hs hB, fun l h => (by cases h), step_below hs hB, .nilslice, by simp [AV.top]⟩
  · cases hz
end
end Go.Proofs.YtnnclgadfbaldaaGreatDoor
