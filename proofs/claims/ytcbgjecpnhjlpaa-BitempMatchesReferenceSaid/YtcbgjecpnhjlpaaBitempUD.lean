/- Several texts in one (wip/merge.py): XBitempUD XBitempVD XBitempTD. -/
import Derived.Test.YtcbgjecpnhjlpaaSyD
import Derived.Test.YtcbgjecpnhjlpaaBitemp1D
import Derived.Test.YtcbgjecpnhjlpaaBitempCD
import Derived.Test.YtcbgjecpnhjlpaaSyRx
/-! Written by program (wip/sygen.py): what the Go functions compute, as the executor reads it off their code. -/
set_option maxRecDepth 100000
set_option linter.unusedVariables false
namespace Go.Proofs.Ytcbgjecpnhjlpaa
open Go Go.Sy
noncomputable def ins_s0 (a : Int) (b : Int) (data : List (List Int)) (y1 : List U) : Int :=
  bitemp_Merge_2_0 (((gr y1 1).getD (gi y1 0).toNat []).getD 0 (0 : Int)) (((gr y1 1).getD (gi y1 0).toNat []).getD 1 (0 : Int))
  (((gr y1 1).getD (gi y1 0).toNat []).getD 2 (0 : Int)) (((gr y1 1).getD (gi y1 0).toNat []).getD 3 (0 : Int))
  (((gr y1 1).getD (gi y1 0).toNat []).getD 4 (0 : Int)) (((gr y1 1).getD (IntKind.i64.wrap (gi y1 0 - (1 : Int))).toNat []).getD 0 (0 : Int))
  (((gr y1 1).getD (IntKind.i64.wrap (gi y1 0 - (1 : Int))).toNat []).getD 1 (0 : Int))
  (((gr y1 1).getD (IntKind.i64.wrap (gi y1 0 - (1 : Int))).toNat []).getD 2 (0 : Int))
  (((gr y1 1).getD (IntKind.i64.wrap (gi y1 0 - (1 : Int))).toNat []).getD 3 (0 : Int))
  (((gr y1 1).getD (IntKind.i64.wrap (gi y1 0 - (1 : Int))).toNat []).getD 4 (0 : Int))
noncomputable def ins_s1 (a : Int) (b : Int) (data : List (List Int)) (y1 : List U) : List Int :=
  [((gr y1 1).getD (IntKind.i64.wrap (gi y1 0 - (1 : Int))).toNat []).getD 3 (0 : Int),
  ((gr y1 1).getD (IntKind.i64.wrap (gi y1 0 - (1 : Int))).toNat []).getD 4 (0 : Int)]
noncomputable def ins_s2 (a : Int) (b : Int) (data : List (List Int)) (y1 : List U) : List Int :=
  ((gr y1 1).getD (IntKind.i64.wrap (gi y1 0 - (1 : Int))).toNat []).getD 1 (0 : Int) ::
  ((gr y1 1).getD (IntKind.i64.wrap (gi y1 0 - (1 : Int))).toNat []).getD 2 (0 : Int) :: (ins_s1 a b data y1)
noncomputable def ins_s3 (a : Int) (b : Int) (data : List (List Int)) (y1 : List U) : List Int :=
  setEl 5 ((gr y1 1).getD (gi y1 0).toNat []) 0
  (((gr y1 1).getD (IntKind.i64.wrap (gi y1 0 - (1 : Int))).toNat []).getD 0 (0 : Int) :: (ins_s2 a b data y1))
noncomputable def ins_s4 (a : Int) (b : Int) (data : List (List Int)) (y1 : List U) : List Int :=
  [((gr y1 1).getD (gi y1 0).toNat []).getD 2 (0 : Int), ((gr y1 1).getD (gi y1 0).toNat []).getD 3 (0 : Int),
  ((gr y1 1).getD (gi y1 0).toNat []).getD 4 (0 : Int)]
noncomputable def ins_s5 (a : Int) (b : Int) (data : List (List Int)) (y1 : List U) : List Int :=
  setEl 5 (((gr y1 1).set (gi y1 0).toNat ((ins_s3 a b data y1))).getD (IntKind.i64.wrap (gi y1 0 - (1 : Int))).toNat []) 0
  (((gr y1 1).getD (gi y1 0).toNat []).getD 0 (0 : Int) :: ((gr y1 1).getD (gi y1 0).toNat []).getD 1 (0 : Int) :: (ins_s4 a b data y1))
noncomputable def ins_l1_init (a : Int) (b : Int) (data : List (List Int)) (y0 : List U) : List U :=
  [.i (gi y0 0), .r (gr y0 1)]
noncomputable def ins_l1_step (a : Int) (b : Int) (data : List (List Int)) (y0 : List U) (y1 : List U) : Option (Nat × List U) :=
  guardP ((decide (gi y1 0 > a) = true) → (inR (gi y1 0) (gr y1 1))) (guardP ((decide (gi y1 0 > a) = true) → (inR (gi y1 0) (gr y1 1))) (guardP ((decide (gi y1 0 > a) = true) → (inR (IntKind.i64.wrap (gi y1 0 - (1 : Int))) (gr y1 1))) (guardP ((decide (gi y1 0 > a) = true) → (inR (IntKind.i64.wrap (gi y1 0 - (1 : Int))) (gr y1 1))) ((bif decide (gi y1 0 > a) && decide ((ins_s0 a b data y1) < (0 : Int)) then guardP (inR (IntKind.i64.wrap (gi y1 0 - (1 : Int))) (gr y1 1)) (guardP (inR (IntKind.i64.wrap (gi y1 0 - (1 : Int))) (gr y1 1)) (guardP (inR (gi y1 0) (gr y1 1)) (guardP (inR (gi y1 0) (gr y1 1)) (guardP (inR (gi y1 0) (gr y1 1)) (guardP (inR (gi y1 0) (gr y1 1)) (guardP (inR (IntKind.i64.wrap (gi y1 0 - (1 : Int))) ((gr y1 1).set (gi y1 0).toNat ((ins_s3 a b data y1)))) (guardP (inR (IntKind.i64.wrap (gi y1 0 - (1 : Int))) ((gr y1 1).set (gi y1 0).toNat ((ins_s3 a b data y1)))) (some (0, [.i (IntKind.i64.wrap (gi y1 0 - (1 : Int))), .r (((gr y1 1).set (gi y1 0).toNat ((ins_s3 a b data y1))).set (IntKind.i64.wrap (gi y1 0 - (1 : Int))).toNat ((ins_s5 a b data y1)))]))))))))) else some (2, [.i (gi y1 0), .r (gr y1 1)]))))))
noncomputable def ins_l1 (a : Int) (b : Int) (data : List (List Int)) (y0 : List U) : Nat × List U := loopGet (ins_l1_step a b data y0) (ins_l1_init a b data y0)
noncomputable def ins_l0_init (a : Int) (b : Int) (data : List (List Int)) : List U :=
  [.i (IntKind.i64.wrap (a + (1 : Int))), .r (data)]
noncomputable def ins_l0_step (a : Int) (b : Int) (data : List (List Int)) (y0 : List U) : Option (Nat × List U) :=
  (bif decide (gi y0 0 < b) then guardP ((loopOk (ins_l1_step a b data y0) (ins_l1_init a b data y0))) (some (0, [.i (IntKind.i64.wrap (gi y0 0 + (1 : Int))), .r (gr (ins_l1 a b data y0).snd 1)])) else some (2, [.i (gi y0 0), .r (gr y0 1)]))
noncomputable def ins_l0 (a : Int) (b : Int) (data : List (List Int)) : Nat × List U := loopGet (ins_l0_step a b data) (ins_l0_init a b data)
noncomputable def ins_0 (a : Int) (b : Int) (data : List (List Int)) : List (List Int) :=
  gr (ins_l0 a b data).snd 1
def ins_pre (a : Int) (b : Int) (data : List (List Int)) : Prop :=
  ((loopOk (ins_l0_step a b data) (ins_l0_init a b data)))
noncomputable def swr_s0 (a : Int) (b : Int) (n : Int) (data : List (List Int)) (y0 : List U) : List Int :=
  [((gr y0 1).getD (IntKind.i64.wrap (b + gi y0 0)).toNat []).getD 3 (0 : Int),
  ((gr y0 1).getD (IntKind.i64.wrap (b + gi y0 0)).toNat []).getD 4 (0 : Int)]
noncomputable def swr_s1 (a : Int) (b : Int) (n : Int) (data : List (List Int)) (y0 : List U) : List Int :=
  ((gr y0 1).getD (IntKind.i64.wrap (b + gi y0 0)).toNat []).getD 1 (0 : Int) ::
  ((gr y0 1).getD (IntKind.i64.wrap (b + gi y0 0)).toNat []).getD 2 (0 : Int) :: (swr_s0 a b n data y0)
noncomputable def swr_s2 (a : Int) (b : Int) (n : Int) (data : List (List Int)) (y0 : List U) : List Int :=
  setEl 5 ((gr y0 1).getD (IntKind.i64.wrap (a + gi y0 0)).toNat []) 0
  (((gr y0 1).getD (IntKind.i64.wrap (b + gi y0 0)).toNat []).getD 0 (0 : Int) :: (swr_s1 a b n data y0))
noncomputable def swr_s3 (a : Int) (b : Int) (n : Int) (data : List (List Int)) (y0 : List U) : List Int :=
  [((gr y0 1).getD (IntKind.i64.wrap (a + gi y0 0)).toNat []).getD 3 (0 : Int),
  ((gr y0 1).getD (IntKind.i64.wrap (a + gi y0 0)).toNat []).getD 4 (0 : Int)]
noncomputable def swr_s4 (a : Int) (b : Int) (n : Int) (data : List (List Int)) (y0 : List U) : List Int :=
  ((gr y0 1).getD (IntKind.i64.wrap (a + gi y0 0)).toNat []).getD 1 (0 : Int) ::
  ((gr y0 1).getD (IntKind.i64.wrap (a + gi y0 0)).toNat []).getD 2 (0 : Int) :: (swr_s3 a b n data y0)
noncomputable def swr_s5 (a : Int) (b : Int) (n : Int) (data : List (List Int)) (y0 : List U) : List Int :=
  setEl 5 (((gr y0 1).set (IntKind.i64.wrap (a + gi y0 0)).toNat ((swr_s2 a b n data y0))).getD (IntKind.i64.wrap (b + gi y0 0)).toNat []) 0
  (((gr y0 1).getD (IntKind.i64.wrap (a + gi y0 0)).toNat []).getD 0 (0 : Int) :: (swr_s4 a b n data y0))
noncomputable def swr_l0_init (a : Int) (b : Int) (n : Int) (data : List (List Int)) : List U :=
  [.i ((0 : Int)), .r (data)]
noncomputable def swr_l0_step (a : Int) (b : Int) (n : Int) (data : List (List Int)) (y0 : List U) : Option (Nat × List U) :=
  (bif decide (gi y0 0 < n) then guardP (inR (IntKind.i64.wrap (b + gi y0 0)) (gr y0 1)) (guardP (inR (IntKind.i64.wrap (b + gi y0 0)) (gr y0 1)) (guardP (inR (IntKind.i64.wrap (a + gi y0 0)) (gr y0 1)) (guardP (inR (IntKind.i64.wrap (a + gi y0 0)) (gr y0 1)) (guardP (inR (IntKind.i64.wrap (a + gi y0 0)) (gr y0 1)) (guardP (inR (IntKind.i64.wrap (a + gi y0 0)) (gr y0 1)) (guardP (inR (IntKind.i64.wrap (b + gi y0 0)) ((gr y0 1).set (IntKind.i64.wrap (a + gi y0 0)).toNat ((swr_s2 a b n data y0)))) (guardP (inR (IntKind.i64.wrap (b + gi y0 0)) ((gr y0 1).set (IntKind.i64.wrap (a + gi y0 0)).toNat ((swr_s2 a b n data y0)))) (some (0, [.i (IntKind.i64.wrap (gi y0 0 + (1 : Int))), .r (((gr y0 1).set (IntKind.i64.wrap (a + gi y0 0)).toNat ((swr_s2 a b n data y0))).set (IntKind.i64.wrap (b + gi y0 0)).toNat ((swr_s5 a b n data y0)))]))))))))) else some (2, [.i (gi y0 0), .r (gr y0 1)]))
noncomputable def swr_l0 (a : Int) (b : Int) (n : Int) (data : List (List Int)) : Nat × List U := loopGet (swr_l0_step a b n data) (swr_l0_init a b n data)
noncomputable def swr_0 (a : Int) (b : Int) (n : Int) (data : List (List Int)) : List (List Int) :=
  gr (swr_l0 a b n data).snd 1
def swr_pre (a : Int) (b : Int) (n : Int) (data : List (List Int)) : Prop :=
  ((loopOk (swr_l0_step a b n data) (swr_l0_init a b n data)))
noncomputable def rot_l0_init (a : Int) (m : Int) (b : Int) (data : List (List Int)) : List U :=
  [.i (IntKind.i64.wrap (m - a)), .i (IntKind.i64.wrap (b - m)), .r (data)]
noncomputable def rot_l0_step (a : Int) (m : Int) (b : Int) (data : List (List Int)) (y0 : List U) : Option (Nat × List U) :=
  (bif gi y0 0 != gi y0 1 then (bif decide (gi y0 0 > gi y0 1) then guardP (swr_pre (IntKind.i64.wrap (m - gi y0 0)) m (gi y0 1) (gr y0 2)) (some (0, [.i (IntKind.i64.wrap (gi y0 0 - gi y0 1)), .i (gi y0 1), .r (swr_0 (IntKind.i64.wrap (m - gi y0 0)) m (gi y0 1) (gr y0 2))])) else guardP (swr_pre (IntKind.i64.wrap (m - gi y0 0)) (IntKind.i64.wrap (IntKind.i64.wrap (m + gi y0 1) - gi y0 0)) (gi y0 0) (gr y0 2)) (some (0, [.i (gi y0 0), .i (IntKind.i64.wrap (gi y0 1 - gi y0 0)), .r (swr_0 (IntKind.i64.wrap (m - gi y0 0)) (IntKind.i64.wrap (IntKind.i64.wrap (m + gi y0 1) - gi y0 0)) (gi y0 0) (gr y0 2))]))) else some (3, [.i (gi y0 0), .i (gi y0 1), .r (gr y0 2)]))
noncomputable def rot_l0 (a : Int) (m : Int) (b : Int) (data : List (List Int)) : Nat × List U := loopGet (rot_l0_step a m b data) (rot_l0_init a m b data)
noncomputable def rot_0 (a : Int) (m : Int) (b : Int) (data : List (List Int)) : List (List Int) :=
  swr_0 (IntKind.i64.wrap (m - gi (rot_l0 a m b data).snd 0)) m (gi (rot_l0 a m b data).snd 0) (gr (rot_l0 a m b data).snd 2)
def rot_pre (a : Int) (m : Int) (b : Int) (data : List (List Int)) : Prop :=
  (((loopOk (rot_l0_step a m b data) (rot_l0_init a m b data))) ∧ (swr_pre (IntKind.i64.wrap (m - gi (rot_l0 a m b data).snd 0)) m (gi (rot_l0 a m b data).snd 0) (gr (rot_l0 a m b data).snd 2)))
end Go.Proofs.Ytcbgjecpnhjlpaa

/-! Written by program (wip/sygen.py): what the Go functions compute, as the executor reads it off their code. -/
set_option maxRecDepth 100000
set_option linter.unusedVariables false
namespace Go.Proofs.Ytcbgjecpnhjlpaa
open Go Go.Sy
noncomputable def sm_s0 (pr : Int → Int → Int → List (List Int) → Prop) (g : Int → Int → Int → List (List Int) → List (List Int)) (a : Int) (m : Int) (b : Int) (data : List (List Int)) (y0 : List U) : Int :=
  bitemp_Merge_2_0
  ((data.getD (IntKind.i64.wrap ((IntKind.u64.wrap (IntKind.i64.wrap (gi y0 0 + gi y0 1))).fdiv ((2 : Int) ^ min (Int.toNat (1 : Int)) IntKind.u64.bits))).toNat []).getD 0
    (0 : Int))
  ((data.getD (IntKind.i64.wrap ((IntKind.u64.wrap (IntKind.i64.wrap (gi y0 0 + gi y0 1))).fdiv ((2 : Int) ^ min (Int.toNat (1 : Int)) IntKind.u64.bits))).toNat []).getD 1
    (0 : Int))
  ((data.getD (IntKind.i64.wrap ((IntKind.u64.wrap (IntKind.i64.wrap (gi y0 0 + gi y0 1))).fdiv ((2 : Int) ^ min (Int.toNat (1 : Int)) IntKind.u64.bits))).toNat []).getD 2
    (0 : Int))
  ((data.getD (IntKind.i64.wrap ((IntKind.u64.wrap (IntKind.i64.wrap (gi y0 0 + gi y0 1))).fdiv ((2 : Int) ^ min (Int.toNat (1 : Int)) IntKind.u64.bits))).toNat []).getD 3
    (0 : Int))
  ((data.getD (IntKind.i64.wrap ((IntKind.u64.wrap (IntKind.i64.wrap (gi y0 0 + gi y0 1))).fdiv ((2 : Int) ^ min (Int.toNat (1 : Int)) IntKind.u64.bits))).toNat []).getD 4
    (0 : Int))
  ((data.getD a.toNat []).getD 0 (0 : Int)) ((data.getD a.toNat []).getD 1 (0 : Int)) ((data.getD a.toNat []).getD 2 (0 : Int))
  ((data.getD a.toNat []).getD 3 (0 : Int)) ((data.getD a.toNat []).getD 4 (0 : Int))
noncomputable def sm_l0_init (pr : Int → Int → Int → List (List Int) → Prop) (g : Int → Int → Int → List (List Int) → List (List Int)) (a : Int) (m : Int) (b : Int) (data : List (List Int)) : List U :=
  [.i (m), .i (b)]
noncomputable def sm_l0_step (pr : Int → Int → Int → List (List Int) → Prop) (g : Int → Int → Int → List (List Int) → List (List Int)) (a : Int) (m : Int) (b : Int) (data : List (List Int)) (y0 : List U) : Option (Nat × List U) :=
  (bif decide (gi y0 0 < gi y0 1) then guardP ((0 : Int) ≤ (1 : Int)) (guardP (inR (IntKind.i64.wrap ((IntKind.u64.wrap (IntKind.i64.wrap (gi y0 0 + gi y0 1))).fdiv ((2 : Int) ^ min (Int.toNat (1 : Int)) IntKind.u64.bits))) data) (guardP (inR (IntKind.i64.wrap ((IntKind.u64.wrap (IntKind.i64.wrap (gi y0 0 + gi y0 1))).fdiv ((2 : Int) ^ min (Int.toNat (1 : Int)) IntKind.u64.bits))) data) (guardP (inR a data) (guardP (inR a data) ((bif decide ((sm_s0 pr g a m b data y0) < (0 : Int)) then some (0, [.i (IntKind.i64.wrap (IntKind.i64.wrap ((IntKind.u64.wrap (IntKind.i64.wrap (gi y0 0 + gi y0 1))).fdiv ((2 : Int) ^ min (Int.toNat (1 : Int)) IntKind.u64.bits)) + (1 : Int))), .i (gi y0 1)]) else some (0, [.i (gi y0 0), .i (IntKind.i64.wrap ((IntKind.u64.wrap (IntKind.i64.wrap (gi y0 0 + gi y0 1))).fdiv ((2 : Int) ^ min (Int.toNat (1 : Int)) IntKind.u64.bits)))]))))))) else some (3, [.i (gi y0 0), .i (gi y0 1)]))
noncomputable def sm_l0 (pr : Int → Int → Int → List (List Int) → Prop) (g : Int → Int → Int → List (List Int) → List (List Int)) (a : Int) (m : Int) (b : Int) (data : List (List Int)) : Nat × List U := loopGet (sm_l0_step pr g a m b data) (sm_l0_init pr g a m b data)
noncomputable def sm_s1 (pr : Int → Int → Int → List (List Int) → Prop) (g : Int → Int → Int → List (List Int) → List (List Int)) (a : Int) (m : Int) (b : Int) (data : List (List Int)) (y1 : List U) : List Int :=
  [((gr y1 1).getD (IntKind.i64.wrap (gi y1 0 + (1 : Int))).toNat []).getD 3 (0 : Int),
  ((gr y1 1).getD (IntKind.i64.wrap (gi y1 0 + (1 : Int))).toNat []).getD 4 (0 : Int)]
noncomputable def sm_s2 (pr : Int → Int → Int → List (List Int) → Prop) (g : Int → Int → Int → List (List Int) → List (List Int)) (a : Int) (m : Int) (b : Int) (data : List (List Int)) (y1 : List U) : List Int :=
  ((gr y1 1).getD (IntKind.i64.wrap (gi y1 0 + (1 : Int))).toNat []).getD 1 (0 : Int) ::
  ((gr y1 1).getD (IntKind.i64.wrap (gi y1 0 + (1 : Int))).toNat []).getD 2 (0 : Int) :: (sm_s1 pr g a m b data y1)
noncomputable def sm_s3 (pr : Int → Int → Int → List (List Int) → Prop) (g : Int → Int → Int → List (List Int) → List (List Int)) (a : Int) (m : Int) (b : Int) (data : List (List Int)) (y1 : List U) : List Int :=
  setEl 5 ((gr y1 1).getD (gi y1 0).toNat []) 0
  (((gr y1 1).getD (IntKind.i64.wrap (gi y1 0 + (1 : Int))).toNat []).getD 0 (0 : Int) :: (sm_s2 pr g a m b data y1))
noncomputable def sm_s4 (pr : Int → Int → Int → List (List Int) → Prop) (g : Int → Int → Int → List (List Int) → List (List Int)) (a : Int) (m : Int) (b : Int) (data : List (List Int)) (y1 : List U) : List Int :=
  [((gr y1 1).getD (gi y1 0).toNat []).getD 2 (0 : Int), ((gr y1 1).getD (gi y1 0).toNat []).getD 3 (0 : Int),
  ((gr y1 1).getD (gi y1 0).toNat []).getD 4 (0 : Int)]
noncomputable def sm_s5 (pr : Int → Int → Int → List (List Int) → Prop) (g : Int → Int → Int → List (List Int) → List (List Int)) (a : Int) (m : Int) (b : Int) (data : List (List Int)) (y1 : List U) : List Int :=
  setEl 5 (((gr y1 1).set (gi y1 0).toNat ((sm_s3 pr g a m b data y1))).getD (IntKind.i64.wrap (gi y1 0 + (1 : Int))).toNat []) 0
  (((gr y1 1).getD (gi y1 0).toNat []).getD 0 (0 : Int) :: ((gr y1 1).getD (gi y1 0).toNat []).getD 1 (0 : Int) :: (sm_s4 pr g a m b data y1))
noncomputable def sm_l1_init (pr : Int → Int → Int → List (List Int) → Prop) (g : Int → Int → Int → List (List Int) → List (List Int)) (a : Int) (m : Int) (b : Int) (data : List (List Int)) : List U :=
  [.i (a), .r (data)]
noncomputable def sm_l1_step (pr : Int → Int → Int → List (List Int) → Prop) (g : Int → Int → Int → List (List Int) → List (List Int)) (a : Int) (m : Int) (b : Int) (data : List (List Int)) (y1 : List U) : Option (Nat × List U) :=
  (bif decide (gi y1 0 < IntKind.i64.wrap (gi (sm_l0 pr g a m b data).snd 0 - (1 : Int))) then guardP (inR (IntKind.i64.wrap (gi y1 0 + (1 : Int))) (gr y1 1)) (guardP (inR (IntKind.i64.wrap (gi y1 0 + (1 : Int))) (gr y1 1)) (guardP (inR (gi y1 0) (gr y1 1)) (guardP (inR (gi y1 0) (gr y1 1)) (guardP (inR (gi y1 0) (gr y1 1)) (guardP (inR (gi y1 0) (gr y1 1)) (guardP (inR (IntKind.i64.wrap (gi y1 0 + (1 : Int))) ((gr y1 1).set (gi y1 0).toNat ((sm_s3 pr g a m b data y1)))) (guardP (inR (IntKind.i64.wrap (gi y1 0 + (1 : Int))) ((gr y1 1).set (gi y1 0).toNat ((sm_s3 pr g a m b data y1)))) (some (0, [.i (IntKind.i64.wrap (gi y1 0 + (1 : Int))), .r (((gr y1 1).set (gi y1 0).toNat ((sm_s3 pr g a m b data y1))).set (IntKind.i64.wrap (gi y1 0 + (1 : Int))).toNat ((sm_s5 pr g a m b data y1)))]))))))))) else some (2, [.i (gi y1 0), .r (gr y1 1)]))
noncomputable def sm_l1 (pr : Int → Int → Int → List (List Int) → Prop) (g : Int → Int → Int → List (List Int) → List (List Int)) (a : Int) (m : Int) (b : Int) (data : List (List Int)) : Nat × List U := loopGet (sm_l1_step pr g a m b data) (sm_l1_init pr g a m b data)
noncomputable def sm_s6 (pr : Int → Int → Int → List (List Int) → Prop) (g : Int → Int → Int → List (List Int) → List (List Int)) (a : Int) (m : Int) (b : Int) (data : List (List Int)) (y2 : List U) : Int :=
  bitemp_Merge_2_0 ((data.getD m.toNat []).getD 0 (0 : Int)) ((data.getD m.toNat []).getD 1 (0 : Int)) ((data.getD m.toNat []).getD 2 (0 : Int))
  ((data.getD m.toNat []).getD 3 (0 : Int)) ((data.getD m.toNat []).getD 4 (0 : Int))
  ((data.getD (IntKind.i64.wrap ((IntKind.u64.wrap (IntKind.i64.wrap (gi y2 0 + gi y2 1))).fdiv ((2 : Int) ^ min (Int.toNat (1 : Int)) IntKind.u64.bits))).toNat []).getD 0
    (0 : Int))
  ((data.getD (IntKind.i64.wrap ((IntKind.u64.wrap (IntKind.i64.wrap (gi y2 0 + gi y2 1))).fdiv ((2 : Int) ^ min (Int.toNat (1 : Int)) IntKind.u64.bits))).toNat []).getD 1
    (0 : Int))
  ((data.getD (IntKind.i64.wrap ((IntKind.u64.wrap (IntKind.i64.wrap (gi y2 0 + gi y2 1))).fdiv ((2 : Int) ^ min (Int.toNat (1 : Int)) IntKind.u64.bits))).toNat []).getD 2
    (0 : Int))
  ((data.getD (IntKind.i64.wrap ((IntKind.u64.wrap (IntKind.i64.wrap (gi y2 0 + gi y2 1))).fdiv ((2 : Int) ^ min (Int.toNat (1 : Int)) IntKind.u64.bits))).toNat []).getD 3
    (0 : Int))
  ((data.getD (IntKind.i64.wrap ((IntKind.u64.wrap (IntKind.i64.wrap (gi y2 0 + gi y2 1))).fdiv ((2 : Int) ^ min (Int.toNat (1 : Int)) IntKind.u64.bits))).toNat []).getD 4
    (0 : Int))
noncomputable def sm_l2_init (pr : Int → Int → Int → List (List Int) → Prop) (g : Int → Int → Int → List (List Int) → List (List Int)) (a : Int) (m : Int) (b : Int) (data : List (List Int)) : List U :=
  [.i (a), .i (m)]
noncomputable def sm_l2_step (pr : Int → Int → Int → List (List Int) → Prop) (g : Int → Int → Int → List (List Int) → List (List Int)) (a : Int) (m : Int) (b : Int) (data : List (List Int)) (y2 : List U) : Option (Nat × List U) :=
  (bif decide (gi y2 0 < gi y2 1) then guardP ((0 : Int) ≤ (1 : Int)) (guardP (inR m data) (guardP (inR m data) (guardP (inR (IntKind.i64.wrap ((IntKind.u64.wrap (IntKind.i64.wrap (gi y2 0 + gi y2 1))).fdiv ((2 : Int) ^ min (Int.toNat (1 : Int)) IntKind.u64.bits))) data) (guardP (inR (IntKind.i64.wrap ((IntKind.u64.wrap (IntKind.i64.wrap (gi y2 0 + gi y2 1))).fdiv ((2 : Int) ^ min (Int.toNat (1 : Int)) IntKind.u64.bits))) data) ((bif !decide ((sm_s6 pr g a m b data y2) < (0 : Int)) then some (0, [.i (IntKind.i64.wrap (IntKind.i64.wrap ((IntKind.u64.wrap (IntKind.i64.wrap (gi y2 0 + gi y2 1))).fdiv ((2 : Int) ^ min (Int.toNat (1 : Int)) IntKind.u64.bits)) + (1 : Int))), .i (gi y2 1)]) else some (0, [.i (gi y2 0), .i (IntKind.i64.wrap ((IntKind.u64.wrap (IntKind.i64.wrap (gi y2 0 + gi y2 1))).fdiv ((2 : Int) ^ min (Int.toNat (1 : Int)) IntKind.u64.bits)))]))))))) else some (3, [.i (gi y2 0), .i (gi y2 1)]))
noncomputable def sm_l2 (pr : Int → Int → Int → List (List Int) → Prop) (g : Int → Int → Int → List (List Int) → List (List Int)) (a : Int) (m : Int) (b : Int) (data : List (List Int)) : Nat × List U := loopGet (sm_l2_step pr g a m b data) (sm_l2_init pr g a m b data)
noncomputable def sm_s7 (pr : Int → Int → Int → List (List Int) → Prop) (g : Int → Int → Int → List (List Int) → List (List Int)) (a : Int) (m : Int) (b : Int) (data : List (List Int)) (y3 : List U) : List Int :=
  [((gr y3 1).getD (IntKind.i64.wrap (gi y3 0 - (1 : Int))).toNat []).getD 3 (0 : Int),
  ((gr y3 1).getD (IntKind.i64.wrap (gi y3 0 - (1 : Int))).toNat []).getD 4 (0 : Int)]
noncomputable def sm_s8 (pr : Int → Int → Int → List (List Int) → Prop) (g : Int → Int → Int → List (List Int) → List (List Int)) (a : Int) (m : Int) (b : Int) (data : List (List Int)) (y3 : List U) : List Int :=
  ((gr y3 1).getD (IntKind.i64.wrap (gi y3 0 - (1 : Int))).toNat []).getD 1 (0 : Int) ::
  ((gr y3 1).getD (IntKind.i64.wrap (gi y3 0 - (1 : Int))).toNat []).getD 2 (0 : Int) :: (sm_s7 pr g a m b data y3)
noncomputable def sm_s9 (pr : Int → Int → Int → List (List Int) → Prop) (g : Int → Int → Int → List (List Int) → List (List Int)) (a : Int) (m : Int) (b : Int) (data : List (List Int)) (y3 : List U) : List Int :=
  setEl 5 ((gr y3 1).getD (gi y3 0).toNat []) 0
  (((gr y3 1).getD (IntKind.i64.wrap (gi y3 0 - (1 : Int))).toNat []).getD 0 (0 : Int) :: (sm_s8 pr g a m b data y3))
noncomputable def sm_s10 (pr : Int → Int → Int → List (List Int) → Prop) (g : Int → Int → Int → List (List Int) → List (List Int)) (a : Int) (m : Int) (b : Int) (data : List (List Int)) (y3 : List U) : List Int :=
  [((gr y3 1).getD (gi y3 0).toNat []).getD 2 (0 : Int), ((gr y3 1).getD (gi y3 0).toNat []).getD 3 (0 : Int),
  ((gr y3 1).getD (gi y3 0).toNat []).getD 4 (0 : Int)]
noncomputable def sm_s11 (pr : Int → Int → Int → List (List Int) → Prop) (g : Int → Int → Int → List (List Int) → List (List Int)) (a : Int) (m : Int) (b : Int) (data : List (List Int)) (y3 : List U) : List Int :=
  setEl 5 (((gr y3 1).set (gi y3 0).toNat ((sm_s9 pr g a m b data y3))).getD (IntKind.i64.wrap (gi y3 0 - (1 : Int))).toNat []) 0
  (((gr y3 1).getD (gi y3 0).toNat []).getD 0 (0 : Int) :: ((gr y3 1).getD (gi y3 0).toNat []).getD 1 (0 : Int) :: (sm_s10 pr g a m b data y3))
noncomputable def sm_l3_init (pr : Int → Int → Int → List (List Int) → Prop) (g : Int → Int → Int → List (List Int) → List (List Int)) (a : Int) (m : Int) (b : Int) (data : List (List Int)) : List U :=
  [.i (m), .r (data)]
noncomputable def sm_l3_step (pr : Int → Int → Int → List (List Int) → Prop) (g : Int → Int → Int → List (List Int) → List (List Int)) (a : Int) (m : Int) (b : Int) (data : List (List Int)) (y3 : List U) : Option (Nat × List U) :=
  (bif decide (gi y3 0 > gi (sm_l2 pr g a m b data).snd 0) then guardP (inR (IntKind.i64.wrap (gi y3 0 - (1 : Int))) (gr y3 1)) (guardP (inR (IntKind.i64.wrap (gi y3 0 - (1 : Int))) (gr y3 1)) (guardP (inR (gi y3 0) (gr y3 1)) (guardP (inR (gi y3 0) (gr y3 1)) (guardP (inR (gi y3 0) (gr y3 1)) (guardP (inR (gi y3 0) (gr y3 1)) (guardP (inR (IntKind.i64.wrap (gi y3 0 - (1 : Int))) ((gr y3 1).set (gi y3 0).toNat ((sm_s9 pr g a m b data y3)))) (guardP (inR (IntKind.i64.wrap (gi y3 0 - (1 : Int))) ((gr y3 1).set (gi y3 0).toNat ((sm_s9 pr g a m b data y3)))) (some (0, [.i (IntKind.i64.wrap (gi y3 0 - (1 : Int))), .r (((gr y3 1).set (gi y3 0).toNat ((sm_s9 pr g a m b data y3))).set (IntKind.i64.wrap (gi y3 0 - (1 : Int))).toNat ((sm_s11 pr g a m b data y3)))]))))))))) else some (2, [.i (gi y3 0), .r (gr y3 1)]))
noncomputable def sm_l3 (pr : Int → Int → Int → List (List Int) → Prop) (g : Int → Int → Int → List (List Int) → List (List Int)) (a : Int) (m : Int) (b : Int) (data : List (List Int)) : Nat × List U := loopGet (sm_l3_step pr g a m b data) (sm_l3_init pr g a m b data)
noncomputable def sm_s12 (pr : Int → Int → Int → List (List Int) → Prop) (g : Int → Int → Int → List (List Int) → List (List Int)) (a : Int) (m : Int) (b : Int) (data : List (List Int)) (y4 : List U) : Int :=
  IntKind.i64.wrap (IntKind.i64.wrap (IntKind.i64.wrap ((IntKind.u64.wrap (IntKind.i64.wrap (a + b))).fdiv ((2 : Int) ^ min (Int.toNat (1 : Int)) IntKind.u64.bits)) + m) - (1 : Int)) -
  IntKind.i64.wrap ((IntKind.u64.wrap (IntKind.i64.wrap (gi y4 0 + gi y4 1))).fdiv ((2 : Int) ^ min (Int.toNat (1 : Int)) IntKind.u64.bits))
noncomputable def sm_s13 (pr : Int → Int → Int → List (List Int) → Prop) (g : Int → Int → Int → List (List Int) → List (List Int)) (a : Int) (m : Int) (b : Int) (data : List (List Int)) (y4 : List U) : Int :=
  bitemp_Merge_2_0 ((data.getD (IntKind.i64.wrap ((sm_s12 pr g a m b data y4))).toNat []).getD 0 (0 : Int)) ((data.getD (IntKind.i64.wrap ((sm_s12 pr g a m b data y4))).toNat []).getD 1 (0 : Int))
  ((data.getD (IntKind.i64.wrap ((sm_s12 pr g a m b data y4))).toNat []).getD 2 (0 : Int)) ((data.getD (IntKind.i64.wrap ((sm_s12 pr g a m b data y4))).toNat []).getD 3 (0 : Int))
  ((data.getD (IntKind.i64.wrap ((sm_s12 pr g a m b data y4))).toNat []).getD 4 (0 : Int))
  ((data.getD (IntKind.i64.wrap ((IntKind.u64.wrap (IntKind.i64.wrap (gi y4 0 + gi y4 1))).fdiv ((2 : Int) ^ min (Int.toNat (1 : Int)) IntKind.u64.bits))).toNat []).getD 0
    (0 : Int))
  ((data.getD (IntKind.i64.wrap ((IntKind.u64.wrap (IntKind.i64.wrap (gi y4 0 + gi y4 1))).fdiv ((2 : Int) ^ min (Int.toNat (1 : Int)) IntKind.u64.bits))).toNat []).getD 1
    (0 : Int))
  ((data.getD (IntKind.i64.wrap ((IntKind.u64.wrap (IntKind.i64.wrap (gi y4 0 + gi y4 1))).fdiv ((2 : Int) ^ min (Int.toNat (1 : Int)) IntKind.u64.bits))).toNat []).getD 2
    (0 : Int))
  ((data.getD (IntKind.i64.wrap ((IntKind.u64.wrap (IntKind.i64.wrap (gi y4 0 + gi y4 1))).fdiv ((2 : Int) ^ min (Int.toNat (1 : Int)) IntKind.u64.bits))).toNat []).getD 3
    (0 : Int))
  ((data.getD (IntKind.i64.wrap ((IntKind.u64.wrap (IntKind.i64.wrap (gi y4 0 + gi y4 1))).fdiv ((2 : Int) ^ min (Int.toNat (1 : Int)) IntKind.u64.bits))).toNat []).getD 4
    (0 : Int))
noncomputable def sm_l4_init (pr : Int → Int → Int → List (List Int) → Prop) (g : Int → Int → Int → List (List Int) → List (List Int)) (a : Int) (m : Int) (b : Int) (data : List (List Int)) : List U :=
  [.i (IntKind.i64.wrap (IntKind.i64.wrap (IntKind.i64.wrap ((IntKind.u64.wrap (IntKind.i64.wrap (a + b))).fdiv ((2 : Int) ^ min (Int.toNat (1 : Int)) IntKind.u64.bits)) + m) - b)), .i (IntKind.i64.wrap ((IntKind.u64.wrap (IntKind.i64.wrap (a + b))).fdiv ((2 : Int) ^ min (Int.toNat (1 : Int)) IntKind.u64.bits)))]
noncomputable def sm_l4_step (pr : Int → Int → Int → List (List Int) → Prop) (g : Int → Int → Int → List (List Int) → List (List Int)) (a : Int) (m : Int) (b : Int) (data : List (List Int)) (y4 : List U) : Option (Nat × List U) :=
  (bif decide (gi y4 0 < gi y4 1) then guardP ((0 : Int) ≤ (1 : Int)) (guardP (inR (IntKind.i64.wrap ((sm_s12 pr g a m b data y4))) data) (guardP (inR (IntKind.i64.wrap ((sm_s12 pr g a m b data y4))) data) (guardP (inR (IntKind.i64.wrap ((IntKind.u64.wrap (IntKind.i64.wrap (gi y4 0 + gi y4 1))).fdiv ((2 : Int) ^ min (Int.toNat (1 : Int)) IntKind.u64.bits))) data) (guardP (inR (IntKind.i64.wrap ((IntKind.u64.wrap (IntKind.i64.wrap (gi y4 0 + gi y4 1))).fdiv ((2 : Int) ^ min (Int.toNat (1 : Int)) IntKind.u64.bits))) data) ((bif !decide ((sm_s13 pr g a m b data y4) < (0 : Int)) then some (0, [.i (IntKind.i64.wrap (IntKind.i64.wrap ((IntKind.u64.wrap (IntKind.i64.wrap (gi y4 0 + gi y4 1))).fdiv ((2 : Int) ^ min (Int.toNat (1 : Int)) IntKind.u64.bits)) + (1 : Int))), .i (gi y4 1)]) else some (0, [.i (gi y4 0), .i (IntKind.i64.wrap ((IntKind.u64.wrap (IntKind.i64.wrap (gi y4 0 + gi y4 1))).fdiv ((2 : Int) ^ min (Int.toNat (1 : Int)) IntKind.u64.bits)))]))))))) else some (3, [.i (gi y4 0), .i (gi y4 1)]))
noncomputable def sm_l4 (pr : Int → Int → Int → List (List Int) → Prop) (g : Int → Int → Int → List (List Int) → List (List Int)) (a : Int) (m : Int) (b : Int) (data : List (List Int)) : Nat × List U := loopGet (sm_l4_step pr g a m b data) (sm_l4_init pr g a m b data)
noncomputable def sm_s14 (pr : Int → Int → Int → List (List Int) → Prop) (g : Int → Int → Int → List (List Int) → List (List Int)) (a : Int) (m : Int) (b : Int) (data : List (List Int)) : Int :=
  IntKind.i64.wrap
  (IntKind.i64.wrap (IntKind.i64.wrap ((IntKind.u64.wrap (IntKind.i64.wrap (a + b))).fdiv ((2 : Int) ^ min (Int.toNat (1 : Int)) IntKind.u64.bits)) + m) - gi (sm_l4 pr g a m b data).snd 0)
noncomputable def sm_s15 (pr : Int → Int → Int → List (List Int) → Prop) (g : Int → Int → Int → List (List Int) → List (List Int)) (a : Int) (m : Int) (b : Int) (data : List (List Int)) : List (List Int) :=
  g a (gi (sm_l4 pr g a m b data).snd 0) (IntKind.i64.wrap ((IntKind.u64.wrap (IntKind.i64.wrap (a + b))).fdiv ((2 : Int) ^ min (Int.toNat (1 : Int)) IntKind.u64.bits)))
  (rot_0 (gi (sm_l4 pr g a m b data).snd 0) m ((sm_s14 pr g a m b data)) data)
noncomputable def sm_s16 (pr : Int → Int → Int → List (List Int) → Prop) (g : Int → Int → Int → List (List Int) → List (List Int)) (a : Int) (m : Int) (b : Int) (data : List (List Int)) (y5 : List U) : Int :=
  IntKind.i64.wrap (IntKind.i64.wrap (IntKind.i64.wrap ((IntKind.u64.wrap (IntKind.i64.wrap (a + b))).fdiv ((2 : Int) ^ min (Int.toNat (1 : Int)) IntKind.u64.bits)) + m) - (1 : Int)) -
  IntKind.i64.wrap ((IntKind.u64.wrap (IntKind.i64.wrap (gi y5 0 + gi y5 1))).fdiv ((2 : Int) ^ min (Int.toNat (1 : Int)) IntKind.u64.bits))
noncomputable def sm_s17 (pr : Int → Int → Int → List (List Int) → Prop) (g : Int → Int → Int → List (List Int) → List (List Int)) (a : Int) (m : Int) (b : Int) (data : List (List Int)) (y5 : List U) : Int :=
  bitemp_Merge_2_0 ((data.getD (IntKind.i64.wrap ((sm_s16 pr g a m b data y5))).toNat []).getD 0 (0 : Int)) ((data.getD (IntKind.i64.wrap ((sm_s16 pr g a m b data y5))).toNat []).getD 1 (0 : Int))
  ((data.getD (IntKind.i64.wrap ((sm_s16 pr g a m b data y5))).toNat []).getD 2 (0 : Int)) ((data.getD (IntKind.i64.wrap ((sm_s16 pr g a m b data y5))).toNat []).getD 3 (0 : Int))
  ((data.getD (IntKind.i64.wrap ((sm_s16 pr g a m b data y5))).toNat []).getD 4 (0 : Int))
  ((data.getD (IntKind.i64.wrap ((IntKind.u64.wrap (IntKind.i64.wrap (gi y5 0 + gi y5 1))).fdiv ((2 : Int) ^ min (Int.toNat (1 : Int)) IntKind.u64.bits))).toNat []).getD 0
    (0 : Int))
  ((data.getD (IntKind.i64.wrap ((IntKind.u64.wrap (IntKind.i64.wrap (gi y5 0 + gi y5 1))).fdiv ((2 : Int) ^ min (Int.toNat (1 : Int)) IntKind.u64.bits))).toNat []).getD 1
    (0 : Int))
  ((data.getD (IntKind.i64.wrap ((IntKind.u64.wrap (IntKind.i64.wrap (gi y5 0 + gi y5 1))).fdiv ((2 : Int) ^ min (Int.toNat (1 : Int)) IntKind.u64.bits))).toNat []).getD 2
    (0 : Int))
  ((data.getD (IntKind.i64.wrap ((IntKind.u64.wrap (IntKind.i64.wrap (gi y5 0 + gi y5 1))).fdiv ((2 : Int) ^ min (Int.toNat (1 : Int)) IntKind.u64.bits))).toNat []).getD 3
    (0 : Int))
  ((data.getD (IntKind.i64.wrap ((IntKind.u64.wrap (IntKind.i64.wrap (gi y5 0 + gi y5 1))).fdiv ((2 : Int) ^ min (Int.toNat (1 : Int)) IntKind.u64.bits))).toNat []).getD 4
    (0 : Int))
noncomputable def sm_l5_init (pr : Int → Int → Int → List (List Int) → Prop) (g : Int → Int → Int → List (List Int) → List (List Int)) (a : Int) (m : Int) (b : Int) (data : List (List Int)) : List U :=
  [.i (a), .i (m)]
noncomputable def sm_l5_step (pr : Int → Int → Int → List (List Int) → Prop) (g : Int → Int → Int → List (List Int) → List (List Int)) (a : Int) (m : Int) (b : Int) (data : List (List Int)) (y5 : List U) : Option (Nat × List U) :=
  (bif decide (gi y5 0 < gi y5 1) then guardP ((0 : Int) ≤ (1 : Int)) (guardP (inR (IntKind.i64.wrap ((sm_s16 pr g a m b data y5))) data) (guardP (inR (IntKind.i64.wrap ((sm_s16 pr g a m b data y5))) data) (guardP (inR (IntKind.i64.wrap ((IntKind.u64.wrap (IntKind.i64.wrap (gi y5 0 + gi y5 1))).fdiv ((2 : Int) ^ min (Int.toNat (1 : Int)) IntKind.u64.bits))) data) (guardP (inR (IntKind.i64.wrap ((IntKind.u64.wrap (IntKind.i64.wrap (gi y5 0 + gi y5 1))).fdiv ((2 : Int) ^ min (Int.toNat (1 : Int)) IntKind.u64.bits))) data) ((bif !decide ((sm_s17 pr g a m b data y5) < (0 : Int)) then some (0, [.i (IntKind.i64.wrap (IntKind.i64.wrap ((IntKind.u64.wrap (IntKind.i64.wrap (gi y5 0 + gi y5 1))).fdiv ((2 : Int) ^ min (Int.toNat (1 : Int)) IntKind.u64.bits)) + (1 : Int))), .i (gi y5 1)]) else some (0, [.i (gi y5 0), .i (IntKind.i64.wrap ((IntKind.u64.wrap (IntKind.i64.wrap (gi y5 0 + gi y5 1))).fdiv ((2 : Int) ^ min (Int.toNat (1 : Int)) IntKind.u64.bits)))]))))))) else some (3, [.i (gi y5 0), .i (gi y5 1)]))
noncomputable def sm_l5 (pr : Int → Int → Int → List (List Int) → Prop) (g : Int → Int → Int → List (List Int) → List (List Int)) (a : Int) (m : Int) (b : Int) (data : List (List Int)) : Nat × List U := loopGet (sm_l5_step pr g a m b data) (sm_l5_init pr g a m b data)
noncomputable def sm_s18 (pr : Int → Int → Int → List (List Int) → Prop) (g : Int → Int → Int → List (List Int) → List (List Int)) (a : Int) (m : Int) (b : Int) (data : List (List Int)) : Int :=
  IntKind.i64.wrap
  (IntKind.i64.wrap (IntKind.i64.wrap ((IntKind.u64.wrap (IntKind.i64.wrap (a + b))).fdiv ((2 : Int) ^ min (Int.toNat (1 : Int)) IntKind.u64.bits)) + m) - gi (sm_l5 pr g a m b data).snd 0)
noncomputable def sm_s19 (pr : Int → Int → Int → List (List Int) → Prop) (g : Int → Int → Int → List (List Int) → List (List Int)) (a : Int) (m : Int) (b : Int) (data : List (List Int)) : List (List Int) :=
  g a (gi (sm_l5 pr g a m b data).snd 0) (IntKind.i64.wrap ((IntKind.u64.wrap (IntKind.i64.wrap (a + b))).fdiv ((2 : Int) ^ min (Int.toNat (1 : Int)) IntKind.u64.bits)))
  (rot_0 (gi (sm_l5 pr g a m b data).snd 0) m ((sm_s18 pr g a m b data)) data)
noncomputable def sm_s20 (pr : Int → Int → Int → List (List Int) → Prop) (g : Int → Int → Int → List (List Int) → List (List Int)) (a : Int) (m : Int) (b : Int) (data : List (List Int)) : List (List Int) :=
  bif
    decide (IntKind.i64.wrap ((IntKind.u64.wrap (IntKind.i64.wrap (a + b))).fdiv ((2 : Int) ^ min (Int.toNat (1 : Int)) IntKind.u64.bits)) < (sm_s14 pr g a m b data)) &&
      decide ((sm_s14 pr g a m b data) < b) then
  g (IntKind.i64.wrap ((IntKind.u64.wrap (IntKind.i64.wrap (a + b))).fdiv ((2 : Int) ^ min (Int.toNat (1 : Int)) IntKind.u64.bits))) ((sm_s14 pr g a m b data)) b ((sm_s15 pr g a m b data))
else (sm_s15 pr g a m b data)
noncomputable def sm_s21 (pr : Int → Int → Int → List (List Int) → Prop) (g : Int → Int → Int → List (List Int) → List (List Int)) (a : Int) (m : Int) (b : Int) (data : List (List Int)) : List (List Int) :=
  bif
    decide (IntKind.i64.wrap ((IntKind.u64.wrap (IntKind.i64.wrap (a + b))).fdiv ((2 : Int) ^ min (Int.toNat (1 : Int)) IntKind.u64.bits)) < (sm_s14 pr g a m b data)) &&
      decide ((sm_s14 pr g a m b data) < b) then
  g (IntKind.i64.wrap ((IntKind.u64.wrap (IntKind.i64.wrap (a + b))).fdiv ((2 : Int) ^ min (Int.toNat (1 : Int)) IntKind.u64.bits))) ((sm_s14 pr g a m b data)) b
    (rot_0 (gi (sm_l4 pr g a m b data).snd 0) m ((sm_s14 pr g a m b data)) data)
else rot_0 (gi (sm_l4 pr g a m b data).snd 0) m ((sm_s14 pr g a m b data)) data
noncomputable def sm_s22 (pr : Int → Int → Int → List (List Int) → Prop) (g : Int → Int → Int → List (List Int) → List (List Int)) (a : Int) (m : Int) (b : Int) (data : List (List Int)) : List (List Int) :=
  bif
    decide (a < gi (sm_l4 pr g a m b data).snd 0) &&
      decide (gi (sm_l4 pr g a m b data).snd 0 < IntKind.i64.wrap ((IntKind.u64.wrap (IntKind.i64.wrap (a + b))).fdiv ((2 : Int) ^ min (Int.toNat (1 : Int)) IntKind.u64.bits))) then
  (sm_s20 pr g a m b data)
else (sm_s21 pr g a m b data)
noncomputable def sm_s23 (pr : Int → Int → Int → List (List Int) → Prop) (g : Int → Int → Int → List (List Int) → List (List Int)) (a : Int) (m : Int) (b : Int) (data : List (List Int)) : List (List Int) :=
  g (IntKind.i64.wrap ((IntKind.u64.wrap (IntKind.i64.wrap (a + b))).fdiv ((2 : Int) ^ min (Int.toNat (1 : Int)) IntKind.u64.bits))) ((sm_s14 pr g a m b data)) b
  (g a (gi (sm_l4 pr g a m b data).snd 0) (IntKind.i64.wrap ((IntKind.u64.wrap (IntKind.i64.wrap (a + b))).fdiv ((2 : Int) ^ min (Int.toNat (1 : Int)) IntKind.u64.bits))) data)
noncomputable def sm_s24 (pr : Int → Int → Int → List (List Int) → Prop) (g : Int → Int → Int → List (List Int) → List (List Int)) (a : Int) (m : Int) (b : Int) (data : List (List Int)) : List (List Int) :=
  bif
    decide (IntKind.i64.wrap ((IntKind.u64.wrap (IntKind.i64.wrap (a + b))).fdiv ((2 : Int) ^ min (Int.toNat (1 : Int)) IntKind.u64.bits)) < (sm_s14 pr g a m b data)) &&
      decide ((sm_s14 pr g a m b data) < b) then
  (sm_s23 pr g a m b data)
else g a (gi (sm_l4 pr g a m b data).snd 0) (IntKind.i64.wrap ((IntKind.u64.wrap (IntKind.i64.wrap (a + b))).fdiv ((2 : Int) ^ min (Int.toNat (1 : Int)) IntKind.u64.bits))) data
noncomputable def sm_s25 (pr : Int → Int → Int → List (List Int) → Prop) (g : Int → Int → Int → List (List Int) → List (List Int)) (a : Int) (m : Int) (b : Int) (data : List (List Int)) : List (List Int) :=
  bif
    decide (IntKind.i64.wrap ((IntKind.u64.wrap (IntKind.i64.wrap (a + b))).fdiv ((2 : Int) ^ min (Int.toNat (1 : Int)) IntKind.u64.bits)) < (sm_s14 pr g a m b data)) &&
      decide ((sm_s14 pr g a m b data) < b) then
  g (IntKind.i64.wrap ((IntKind.u64.wrap (IntKind.i64.wrap (a + b))).fdiv ((2 : Int) ^ min (Int.toNat (1 : Int)) IntKind.u64.bits))) ((sm_s14 pr g a m b data)) b data
else data
noncomputable def sm_s26 (pr : Int → Int → Int → List (List Int) → Prop) (g : Int → Int → Int → List (List Int) → List (List Int)) (a : Int) (m : Int) (b : Int) (data : List (List Int)) : List (List Int) :=
  bif
    decide (a < gi (sm_l4 pr g a m b data).snd 0) &&
      decide (gi (sm_l4 pr g a m b data).snd 0 < IntKind.i64.wrap ((IntKind.u64.wrap (IntKind.i64.wrap (a + b))).fdiv ((2 : Int) ^ min (Int.toNat (1 : Int)) IntKind.u64.bits))) then
  (sm_s24 pr g a m b data)
else (sm_s25 pr g a m b data)
noncomputable def sm_s27 (pr : Int → Int → Int → List (List Int) → Prop) (g : Int → Int → Int → List (List Int) → List (List Int)) (a : Int) (m : Int) (b : Int) (data : List (List Int)) : List (List Int) :=
  bif
    decide (IntKind.i64.wrap ((IntKind.u64.wrap (IntKind.i64.wrap (a + b))).fdiv ((2 : Int) ^ min (Int.toNat (1 : Int)) IntKind.u64.bits)) < (sm_s18 pr g a m b data)) &&
      decide ((sm_s18 pr g a m b data) < b) then
  g (IntKind.i64.wrap ((IntKind.u64.wrap (IntKind.i64.wrap (a + b))).fdiv ((2 : Int) ^ min (Int.toNat (1 : Int)) IntKind.u64.bits))) ((sm_s18 pr g a m b data)) b ((sm_s19 pr g a m b data))
else (sm_s19 pr g a m b data)
noncomputable def sm_s28 (pr : Int → Int → Int → List (List Int) → Prop) (g : Int → Int → Int → List (List Int) → List (List Int)) (a : Int) (m : Int) (b : Int) (data : List (List Int)) : List (List Int) :=
  bif
    decide (IntKind.i64.wrap ((IntKind.u64.wrap (IntKind.i64.wrap (a + b))).fdiv ((2 : Int) ^ min (Int.toNat (1 : Int)) IntKind.u64.bits)) < (sm_s18 pr g a m b data)) &&
      decide ((sm_s18 pr g a m b data) < b) then
  g (IntKind.i64.wrap ((IntKind.u64.wrap (IntKind.i64.wrap (a + b))).fdiv ((2 : Int) ^ min (Int.toNat (1 : Int)) IntKind.u64.bits))) ((sm_s18 pr g a m b data)) b
    (rot_0 (gi (sm_l5 pr g a m b data).snd 0) m ((sm_s18 pr g a m b data)) data)
else rot_0 (gi (sm_l5 pr g a m b data).snd 0) m ((sm_s18 pr g a m b data)) data
noncomputable def sm_s29 (pr : Int → Int → Int → List (List Int) → Prop) (g : Int → Int → Int → List (List Int) → List (List Int)) (a : Int) (m : Int) (b : Int) (data : List (List Int)) : List (List Int) :=
  bif
    decide (a < gi (sm_l5 pr g a m b data).snd 0) &&
      decide (gi (sm_l5 pr g a m b data).snd 0 < IntKind.i64.wrap ((IntKind.u64.wrap (IntKind.i64.wrap (a + b))).fdiv ((2 : Int) ^ min (Int.toNat (1 : Int)) IntKind.u64.bits))) then
  (sm_s27 pr g a m b data)
else (sm_s28 pr g a m b data)
noncomputable def sm_s30 (pr : Int → Int → Int → List (List Int) → Prop) (g : Int → Int → Int → List (List Int) → List (List Int)) (a : Int) (m : Int) (b : Int) (data : List (List Int)) : List (List Int) :=
  g (IntKind.i64.wrap ((IntKind.u64.wrap (IntKind.i64.wrap (a + b))).fdiv ((2 : Int) ^ min (Int.toNat (1 : Int)) IntKind.u64.bits))) ((sm_s18 pr g a m b data)) b
  (g a (gi (sm_l5 pr g a m b data).snd 0) (IntKind.i64.wrap ((IntKind.u64.wrap (IntKind.i64.wrap (a + b))).fdiv ((2 : Int) ^ min (Int.toNat (1 : Int)) IntKind.u64.bits))) data)
noncomputable def sm_s31 (pr : Int → Int → Int → List (List Int) → Prop) (g : Int → Int → Int → List (List Int) → List (List Int)) (a : Int) (m : Int) (b : Int) (data : List (List Int)) : List (List Int) :=
  bif
    decide (IntKind.i64.wrap ((IntKind.u64.wrap (IntKind.i64.wrap (a + b))).fdiv ((2 : Int) ^ min (Int.toNat (1 : Int)) IntKind.u64.bits)) < (sm_s18 pr g a m b data)) &&
      decide ((sm_s18 pr g a m b data) < b) then
  (sm_s30 pr g a m b data)
else g a (gi (sm_l5 pr g a m b data).snd 0) (IntKind.i64.wrap ((IntKind.u64.wrap (IntKind.i64.wrap (a + b))).fdiv ((2 : Int) ^ min (Int.toNat (1 : Int)) IntKind.u64.bits))) data
noncomputable def sm_s32 (pr : Int → Int → Int → List (List Int) → Prop) (g : Int → Int → Int → List (List Int) → List (List Int)) (a : Int) (m : Int) (b : Int) (data : List (List Int)) : List (List Int) :=
  bif
    decide (IntKind.i64.wrap ((IntKind.u64.wrap (IntKind.i64.wrap (a + b))).fdiv ((2 : Int) ^ min (Int.toNat (1 : Int)) IntKind.u64.bits)) < (sm_s18 pr g a m b data)) &&
      decide ((sm_s18 pr g a m b data) < b) then
  g (IntKind.i64.wrap ((IntKind.u64.wrap (IntKind.i64.wrap (a + b))).fdiv ((2 : Int) ^ min (Int.toNat (1 : Int)) IntKind.u64.bits))) ((sm_s18 pr g a m b data)) b data
else data
noncomputable def sm_s33 (pr : Int → Int → Int → List (List Int) → Prop) (g : Int → Int → Int → List (List Int) → List (List Int)) (a : Int) (m : Int) (b : Int) (data : List (List Int)) : List (List Int) :=
  bif
    decide (a < gi (sm_l5 pr g a m b data).snd 0) &&
      decide (gi (sm_l5 pr g a m b data).snd 0 < IntKind.i64.wrap ((IntKind.u64.wrap (IntKind.i64.wrap (a + b))).fdiv ((2 : Int) ^ min (Int.toNat (1 : Int)) IntKind.u64.bits))) then
  (sm_s31 pr g a m b data)
else (sm_s32 pr g a m b data)
noncomputable def sm_s34 (pr : Int → Int → Int → List (List Int) → Prop) (g : Int → Int → Int → List (List Int) → List (List Int)) (a : Int) (m : Int) (b : Int) (data : List (List Int)) : List (List Int) :=
  bif decide (m > IntKind.i64.wrap ((IntKind.u64.wrap (IntKind.i64.wrap (a + b))).fdiv ((2 : Int) ^ min (Int.toNat (1 : Int)) IntKind.u64.bits))) then
  bif decide (gi (sm_l4 pr g a m b data).snd 0 < m) && decide (m < (sm_s14 pr g a m b data)) then (sm_s22 pr g a m b data) else (sm_s26 pr g a m b data)
else bif decide (gi (sm_l5 pr g a m b data).snd 0 < m) && decide (m < (sm_s18 pr g a m b data)) then (sm_s29 pr g a m b data) else (sm_s33 pr g a m b data)
noncomputable def sm_s35 (pr : Int → Int → Int → List (List Int) → Prop) (g : Int → Int → Int → List (List Int) → List (List Int)) (a : Int) (m : Int) (b : Int) (data : List (List Int)) : List (List Int) :=
  bif IntKind.i64.wrap (m - a) == (1 : Int) then gr (sm_l1 pr g a m b data).snd 1 else bif IntKind.i64.wrap (b - m) == (1 : Int) then gr (sm_l3 pr g a m b data).snd 1 else (sm_s34 pr g a m b data)
noncomputable def sm_0 (pr : Int → Int → Int → List (List Int) → Prop) (g : Int → Int → Int → List (List Int) → List (List Int)) (a : Int) (m : Int) (b : Int) (data : List (List Int)) : List (List Int) :=
  (sm_s35 pr g a m b data)
def sm_pre (pr : Int → Int → Int → List (List Int) → Prop) (g : Int → Int → Int → List (List Int) → List (List Int)) (a : Int) (m : Int) (b : Int) (data : List (List Int)) : Prop :=
  ((((IntKind.i64.wrap (m - a) == (1 : Int)) = true) → (((loopOk (sm_l0_step pr g a m b data) (sm_l0_init pr g a m b data))) ∧ ((loopOk (sm_l1_step pr g a m b data) (sm_l1_init pr g a m b data))))) ∧ (((IntKind.i64.wrap (m - a) == (1 : Int)) = false) → ((((IntKind.i64.wrap (b - m) == (1 : Int)) = true) → (((loopOk (sm_l2_step pr g a m b data) (sm_l2_init pr g a m b data))) ∧ ((loopOk (sm_l3_step pr g a m b data) (sm_l3_init pr g a m b data))))) ∧ (((IntKind.i64.wrap (b - m) == (1 : Int)) = false) → (((0 : Int) ≤ (1 : Int)) ∧ (((decide (m > IntKind.i64.wrap ((IntKind.u64.wrap (IntKind.i64.wrap (a + b))).fdiv ((2 : Int) ^ min (Int.toNat (1 : Int)) IntKind.u64.bits))) = true) → (((loopOk (sm_l4_step pr g a m b data) (sm_l4_init pr g a m b data))) ∧ ((((decide (gi (sm_l4 pr g a m b data).snd 0 < m) && decide (m < (sm_s14 pr g a m b data))) = true) → ((rot_pre (gi (sm_l4 pr g a m b data).snd 0) m ((sm_s14 pr g a m b data)) data) ∧ ((((decide (a < gi (sm_l4 pr g a m b data).snd 0) &&
    decide (gi (sm_l4 pr g a m b data).snd 0 < IntKind.i64.wrap ((IntKind.u64.wrap (IntKind.i64.wrap (a + b))).fdiv ((2 : Int) ^ min (Int.toNat (1 : Int)) IntKind.u64.bits)))) =
  true) → ((pr a (gi (sm_l4 pr g a m b data).snd 0) (IntKind.i64.wrap ((IntKind.u64.wrap (IntKind.i64.wrap (a + b))).fdiv ((2 : Int) ^ min (Int.toNat (1 : Int)) IntKind.u64.bits)))
  (rot_0 (gi (sm_l4 pr g a m b data).snd 0) m ((sm_s14 pr g a m b data)) data)) ∧ (((decide (IntKind.i64.wrap ((IntKind.u64.wrap (IntKind.i64.wrap (a + b))).fdiv ((2 : Int) ^ min (Int.toNat (1 : Int)) IntKind.u64.bits)) < (sm_s14 pr g a m b data)) && decide ((sm_s14 pr g a m b data) < b)) =
  true) → (pr (IntKind.i64.wrap ((IntKind.u64.wrap (IntKind.i64.wrap (a + b))).fdiv ((2 : Int) ^ min (Int.toNat (1 : Int)) IntKind.u64.bits))) ((sm_s14 pr g a m b data)) b ((sm_s15 pr g a m b data)))))) ∧ (((decide (a < gi (sm_l4 pr g a m b data).snd 0) &&
    decide (gi (sm_l4 pr g a m b data).snd 0 < IntKind.i64.wrap ((IntKind.u64.wrap (IntKind.i64.wrap (a + b))).fdiv ((2 : Int) ^ min (Int.toNat (1 : Int)) IntKind.u64.bits)))) =
  false) → (((decide (IntKind.i64.wrap ((IntKind.u64.wrap (IntKind.i64.wrap (a + b))).fdiv ((2 : Int) ^ min (Int.toNat (1 : Int)) IntKind.u64.bits)) < (sm_s14 pr g a m b data)) && decide ((sm_s14 pr g a m b data) < b)) =
  true) → (pr (IntKind.i64.wrap ((IntKind.u64.wrap (IntKind.i64.wrap (a + b))).fdiv ((2 : Int) ^ min (Int.toNat (1 : Int)) IntKind.u64.bits))) ((sm_s14 pr g a m b data)) b
  (rot_0 (gi (sm_l4 pr g a m b data).snd 0) m ((sm_s14 pr g a m b data)) data))))))) ∧ (((decide (gi (sm_l4 pr g a m b data).snd 0 < m) && decide (m < (sm_s14 pr g a m b data))) = false) → ((((decide (a < gi (sm_l4 pr g a m b data).snd 0) &&
    decide (gi (sm_l4 pr g a m b data).snd 0 < IntKind.i64.wrap ((IntKind.u64.wrap (IntKind.i64.wrap (a + b))).fdiv ((2 : Int) ^ min (Int.toNat (1 : Int)) IntKind.u64.bits)))) =
  true) → ((pr a (gi (sm_l4 pr g a m b data).snd 0) (IntKind.i64.wrap ((IntKind.u64.wrap (IntKind.i64.wrap (a + b))).fdiv ((2 : Int) ^ min (Int.toNat (1 : Int)) IntKind.u64.bits))) data) ∧ (((decide (IntKind.i64.wrap ((IntKind.u64.wrap (IntKind.i64.wrap (a + b))).fdiv ((2 : Int) ^ min (Int.toNat (1 : Int)) IntKind.u64.bits)) < (sm_s14 pr g a m b data)) && decide ((sm_s14 pr g a m b data) < b)) =
  true) → (pr (IntKind.i64.wrap ((IntKind.u64.wrap (IntKind.i64.wrap (a + b))).fdiv ((2 : Int) ^ min (Int.toNat (1 : Int)) IntKind.u64.bits))) ((sm_s14 pr g a m b data)) b
  (g a (gi (sm_l4 pr g a m b data).snd 0) (IntKind.i64.wrap ((IntKind.u64.wrap (IntKind.i64.wrap (a + b))).fdiv ((2 : Int) ^ min (Int.toNat (1 : Int)) IntKind.u64.bits))) data))))) ∧ (((decide (a < gi (sm_l4 pr g a m b data).snd 0) &&
    decide (gi (sm_l4 pr g a m b data).snd 0 < IntKind.i64.wrap ((IntKind.u64.wrap (IntKind.i64.wrap (a + b))).fdiv ((2 : Int) ^ min (Int.toNat (1 : Int)) IntKind.u64.bits)))) =
  false) → (((decide (IntKind.i64.wrap ((IntKind.u64.wrap (IntKind.i64.wrap (a + b))).fdiv ((2 : Int) ^ min (Int.toNat (1 : Int)) IntKind.u64.bits)) < (sm_s14 pr g a m b data)) && decide ((sm_s14 pr g a m b data) < b)) =
  true) → (pr (IntKind.i64.wrap ((IntKind.u64.wrap (IntKind.i64.wrap (a + b))).fdiv ((2 : Int) ^ min (Int.toNat (1 : Int)) IntKind.u64.bits))) ((sm_s14 pr g a m b data)) b data)))))))) ∧ ((decide (m > IntKind.i64.wrap ((IntKind.u64.wrap (IntKind.i64.wrap (a + b))).fdiv ((2 : Int) ^ min (Int.toNat (1 : Int)) IntKind.u64.bits))) = false) → (((loopOk (sm_l5_step pr g a m b data) (sm_l5_init pr g a m b data))) ∧ ((((decide (gi (sm_l5 pr g a m b data).snd 0 < m) && decide (m < (sm_s18 pr g a m b data))) = true) → ((rot_pre (gi (sm_l5 pr g a m b data).snd 0) m ((sm_s18 pr g a m b data)) data) ∧ ((((decide (a < gi (sm_l5 pr g a m b data).snd 0) &&
    decide (gi (sm_l5 pr g a m b data).snd 0 < IntKind.i64.wrap ((IntKind.u64.wrap (IntKind.i64.wrap (a + b))).fdiv ((2 : Int) ^ min (Int.toNat (1 : Int)) IntKind.u64.bits)))) =
  true) → ((pr a (gi (sm_l5 pr g a m b data).snd 0) (IntKind.i64.wrap ((IntKind.u64.wrap (IntKind.i64.wrap (a + b))).fdiv ((2 : Int) ^ min (Int.toNat (1 : Int)) IntKind.u64.bits)))
  (rot_0 (gi (sm_l5 pr g a m b data).snd 0) m ((sm_s18 pr g a m b data)) data)) ∧ (((decide (IntKind.i64.wrap ((IntKind.u64.wrap (IntKind.i64.wrap (a + b))).fdiv ((2 : Int) ^ min (Int.toNat (1 : Int)) IntKind.u64.bits)) < (sm_s18 pr g a m b data)) && decide ((sm_s18 pr g a m b data) < b)) =
  true) → (pr (IntKind.i64.wrap ((IntKind.u64.wrap (IntKind.i64.wrap (a + b))).fdiv ((2 : Int) ^ min (Int.toNat (1 : Int)) IntKind.u64.bits))) ((sm_s18 pr g a m b data)) b ((sm_s19 pr g a m b data)))))) ∧ (((decide (a < gi (sm_l5 pr g a m b data).snd 0) &&
    decide (gi (sm_l5 pr g a m b data).snd 0 < IntKind.i64.wrap ((IntKind.u64.wrap (IntKind.i64.wrap (a + b))).fdiv ((2 : Int) ^ min (Int.toNat (1 : Int)) IntKind.u64.bits)))) =
  false) → (((decide (IntKind.i64.wrap ((IntKind.u64.wrap (IntKind.i64.wrap (a + b))).fdiv ((2 : Int) ^ min (Int.toNat (1 : Int)) IntKind.u64.bits)) < (sm_s18 pr g a m b data)) && decide ((sm_s18 pr g a m b data) < b)) =
  true) → (pr (IntKind.i64.wrap ((IntKind.u64.wrap (IntKind.i64.wrap (a + b))).fdiv ((2 : Int) ^ min (Int.toNat (1 : Int)) IntKind.u64.bits))) ((sm_s18 pr g a m b data)) b
  (rot_0 (gi (sm_l5 pr g a m b data).snd 0) m ((sm_s18 pr g a m b data)) data))))))) ∧ (((decide (gi (sm_l5 pr g a m b data).snd 0 < m) && decide (m < (sm_s18 pr g a m b data))) = false) → ((((decide (a < gi (sm_l5 pr g a m b data).snd 0) &&
    decide (gi (sm_l5 pr g a m b data).snd 0 < IntKind.i64.wrap ((IntKind.u64.wrap (IntKind.i64.wrap (a + b))).fdiv ((2 : Int) ^ min (Int.toNat (1 : Int)) IntKind.u64.bits)))) =
  true) → ((pr a (gi (sm_l5 pr g a m b data).snd 0) (IntKind.i64.wrap ((IntKind.u64.wrap (IntKind.i64.wrap (a + b))).fdiv ((2 : Int) ^ min (Int.toNat (1 : Int)) IntKind.u64.bits))) data) ∧ (((decide (IntKind.i64.wrap ((IntKind.u64.wrap (IntKind.i64.wrap (a + b))).fdiv ((2 : Int) ^ min (Int.toNat (1 : Int)) IntKind.u64.bits)) < (sm_s18 pr g a m b data)) && decide ((sm_s18 pr g a m b data) < b)) =
  true) → (pr (IntKind.i64.wrap ((IntKind.u64.wrap (IntKind.i64.wrap (a + b))).fdiv ((2 : Int) ^ min (Int.toNat (1 : Int)) IntKind.u64.bits))) ((sm_s18 pr g a m b data)) b
  (g a (gi (sm_l5 pr g a m b data).snd 0) (IntKind.i64.wrap ((IntKind.u64.wrap (IntKind.i64.wrap (a + b))).fdiv ((2 : Int) ^ min (Int.toNat (1 : Int)) IntKind.u64.bits))) data))))) ∧ (((decide (a < gi (sm_l5 pr g a m b data).snd 0) &&
    decide (gi (sm_l5 pr g a m b data).snd 0 < IntKind.i64.wrap ((IntKind.u64.wrap (IntKind.i64.wrap (a + b))).fdiv ((2 : Int) ^ min (Int.toNat (1 : Int)) IntKind.u64.bits)))) =
  false) → (((decide (IntKind.i64.wrap ((IntKind.u64.wrap (IntKind.i64.wrap (a + b))).fdiv ((2 : Int) ^ min (Int.toNat (1 : Int)) IntKind.u64.bits)) < (sm_s18 pr g a m b data)) && decide ((sm_s18 pr g a m b data) < b)) =
  true) → (pr (IntKind.i64.wrap ((IntKind.u64.wrap (IntKind.i64.wrap (a + b))).fdiv ((2 : Int) ^ min (Int.toNat (1 : Int)) IntKind.u64.bits))) ((sm_s18 pr g a m b data)) b data))))))))))))))
end Go.Proofs.Ytcbgjecpnhjlpaa

/-! Written by program (wip/sygen.py): what the Go functions compute, as the executor reads it off their code. -/
set_option maxRecDepth 100000
set_option linter.unusedVariables false
namespace Go.Proofs.Ytcbgjecpnhjlpaa
open Go Go.Sy
noncomputable def sst_l0_init (pr : Int → Int → Int → List (List Int) → Prop) (g : Int → Int → Int → List (List Int) → List (List Int)) (x : List (List Int)) : List U :=
  [.i ((0 : Int)), .i ((20 : Int)), .r (x)]
noncomputable def sst_l0_step (pr : Int → Int → Int → List (List Int) → Prop) (g : Int → Int → Int → List (List Int) → List (List Int)) (x : List (List Int)) (y0 : List U) : Option (Nat × List U) :=
  (bif decide (gi y0 1 ≤ (↑x.length : Int)) then guardP (ins_pre (gi y0 0) (gi y0 1) (gr y0 2)) (some (0, [.i (gi y0 1), .i (IntKind.i64.wrap (gi y0 1 + (20 : Int))), .r (ins_0 (gi y0 0) (gi y0 1) (gr y0 2))])) else some (2, [.i (gi y0 0), .i (gi y0 1), .r (gr y0 2)]))
noncomputable def sst_l0 (pr : Int → Int → Int → List (List Int) → Prop) (g : Int → Int → Int → List (List Int) → List (List Int)) (x : List (List Int)) : Nat × List U := loopGet (sst_l0_step pr g x) (sst_l0_init pr g x)
noncomputable def sst_l2_init (pr : Int → Int → Int → List (List Int) → Prop) (g : Int → Int → Int → List (List Int) → List (List Int)) (x : List (List Int)) (y1 : List U) : List U :=
  [.i ((0 : Int)), .i (IntKind.i64.wrap ((2 : Int) * gi y1 2)), .r (gr y1 3)]
noncomputable def sst_l2_step (pr : Int → Int → Int → List (List Int) → Prop) (g : Int → Int → Int → List (List Int) → List (List Int)) (x : List (List Int)) (y1 : List U) (y2 : List U) : Option (Nat × List U) :=
  (bif decide (gi y2 1 ≤ (↑x.length : Int)) then guardP (pr (gi y2 0) (IntKind.i64.wrap (gi y2 0 + gi y1 2)) (gi y2 1) (gr y2 2)) (some (0, [.i (gi y2 1), .i (IntKind.i64.wrap (gi y2 1 + IntKind.i64.wrap ((2 : Int) * gi y1 2))), .r (g (gi y2 0) (IntKind.i64.wrap (gi y2 0 + gi y1 2)) (gi y2 1) (gr y2 2))])) else some (2, [.i (gi y2 0), .i (gi y2 1), .r (gr y2 2)]))
noncomputable def sst_l2 (pr : Int → Int → Int → List (List Int) → Prop) (g : Int → Int → Int → List (List Int) → List (List Int)) (x : List (List Int)) (y1 : List U) : Nat × List U := loopGet (sst_l2_step pr g x y1) (sst_l2_init pr g x y1)
noncomputable def sst_l1_init (pr : Int → Int → Int → List (List Int) → Prop) (g : Int → Int → Int → List (List Int) → List (List Int)) (x : List (List Int)) : List U :=
  [.i (gi (sst_l0 pr g x).snd 0), .i (gi (sst_l0 pr g x).snd 1), .i ((20 : Int)), .r (ins_0 (gi (sst_l0 pr g x).snd 0) (↑x.length : Int) (gr (sst_l0 pr g x).snd 2))]
noncomputable def sst_l1_step (pr : Int → Int → Int → List (List Int) → Prop) (g : Int → Int → Int → List (List Int) → List (List Int)) (x : List (List Int)) (y1 : List U) : Option (Nat × List U) :=
  (bif decide (gi y1 2 < (↑x.length : Int)) then guardP ((loopOk (sst_l2_step pr g x y1) (sst_l2_init pr g x y1))) ((bif decide (IntKind.i64.wrap (gi (sst_l2 pr g x y1).snd 0 + gi y1 2) < (↑x.length : Int)) then guardP (pr (gi (sst_l2 pr g x y1).snd 0) (IntKind.i64.wrap (gi (sst_l2 pr g x y1).snd 0 + gi y1 2)) (↑x.length : Int) (gr (sst_l2 pr g x y1).snd 2)) (some (0, [.i (gi (sst_l2 pr g x y1).snd 0), .i (gi (sst_l2 pr g x y1).snd 1), .i (IntKind.i64.wrap (gi y1 2 * (2 : Int))), .r (g (gi (sst_l2 pr g x y1).snd 0) (IntKind.i64.wrap (gi (sst_l2 pr g x y1).snd 0 + gi y1 2)) (↑x.length : Int) (gr (sst_l2 pr g x y1).snd 2))])) else some (0, [.i (gi (sst_l2 pr g x y1).snd 0), .i (gi (sst_l2 pr g x y1).snd 1), .i (IntKind.i64.wrap (gi y1 2 * (2 : Int))), .r (gr (sst_l2 pr g x y1).snd 2)]))) else some (3, [.i (gi y1 0), .i (gi y1 1), .i (gi y1 2), .r (gr y1 3)]))
noncomputable def sst_l1 (pr : Int → Int → Int → List (List Int) → Prop) (g : Int → Int → Int → List (List Int) → List (List Int)) (x : List (List Int)) : Nat × List U := loopGet (sst_l1_step pr g x) (sst_l1_init pr g x)
noncomputable def sst_0 (pr : Int → Int → Int → List (List Int) → Prop) (g : Int → Int → Int → List (List Int) → List (List Int)) (x : List (List Int)) : List (List Int) :=
  gr (sst_l1 pr g x).snd 3
def sst_pre (pr : Int → Int → Int → List (List Int) → Prop) (g : Int → Int → Int → List (List Int) → List (List Int)) (x : List (List Int)) : Prop :=
  (((loopOk (sst_l0_step pr g x) (sst_l0_init pr g x))) ∧ ((ins_pre (gi (sst_l0 pr g x).snd 0) (↑x.length : Int) (gr (sst_l0 pr g x).snd 2)) ∧ ((loopOk (sst_l1_step pr g x) (sst_l1_init pr g x)))))
end Go.Proofs.Ytcbgjecpnhjlpaa
