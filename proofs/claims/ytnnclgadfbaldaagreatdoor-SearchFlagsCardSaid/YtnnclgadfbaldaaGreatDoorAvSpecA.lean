/-
  chars.Fold, chars.Same: by what they compute.
-/
import Derived.Test.YtnnclgadfbaldaaGreatDoorAvD
import Derived.Test.YtnnclgadfbaldaaGreatDoorAvFind
import Derived.Test.YtnnclgadfbaldaaGreatDoorAvSeatF
namespace Go.Proofs.YtnnclgadfbaldaaGreatDoor
open Go Go.Av

def envList (l : List (Nat × MFunc)) : Nat → Option MFunc := envOf l
def specFold : List AV → Option AV
  | [.str s] => if s.length < 4611686018427387904 then some (.str (s.map lowB)) else none
  | _ => none
def specSame : List AV → Option AV
  | [.str a, .str b] => if a.length < 4611686018427387904 ∧ b.length < 4611686018427387904 then some (.bool (a.map lowB == b.map lowB)) else none
  | _ => none
def env34 : List (Nat × MFunc) := [(34, m34), (71, m71)]
theorem env34_ok : EnvOk Tryz.prog (envOf env34) := envOk_cons Tryz.func34 (by kernel_rfl) rfl c34 <| envOk_cons Tryz.func71 (by kernel_rfl) rfl c71 <| envOk_nil
def env62 : List (Nat × MFunc) := [(62, m62)]
theorem env62_ok : EnvOk Tryz.prog (envOf env62) := envOk_cons Tryz.func62 (by kernel_rfl) rfl c62 <| envOk_nil
theorem hmix : Tryz.prog.follows .mixedOrders = true := by kernel_rfl

def orcB : CallF := orcAdd (orcOf N0) 34 specFold
theorem orcB_ok (m : Int) : CallOk (GM m) Tryz.prog orcB := orcAdd_ok (orc_ok (m := m) rfl) fun l r h => by
  unfold specFold at h
  split at h
  · rename_i s
    split at h
    · rename_i hl
      cases h
      exact ⟨rfl, rfl, _, call_ok hmix (orc_ok (m := m) rfl) env34_ok (0 + s.length + 40), fold_run rfl rfl s hl [] 0 _⟩
    · cases h
  · cases h

theorem same_run (m : Int) (a b : List UInt8) (ha : a.length < 4611686018427387904) (hb : b.length < 4611686018427387904) : call (GM m) orcB (envOf env62) 10 (fun _ => true) 62 [.str a, .str b] [] = some (.bool (a.map lowB == b.map lowB), []) := by
  simp [call, envOf, env62, callM, m62, enterFr, exec, runOps, stepOp, Opd.get, fget, fset, fkeep, St.put, getAll, solidAll, solid, orcB, orcAdd, specFold, ha, hb, binAV, binStr, leave, getRes, oneA, topAll, AV.top]

def orcC : CallF := orcAdd orcB 62 specSame
theorem orcC_ok (m : Int) : CallOk (GM m) Tryz.prog orcC := orcAdd_ok (orcB_ok m) fun l r h => by
  unfold specSame at h
  split at h
  · rename_i a b
    split at h
    · rename_i hl
      cases h
      exact ⟨rfl, rfl, _, call_ok hmix (orcB_ok m) env62_ok 10, same_run m a b hl.1 hl.2⟩
    · cases h
  · cases h
end Go.Proofs.YtnnclgadfbaldaaGreatDoor
