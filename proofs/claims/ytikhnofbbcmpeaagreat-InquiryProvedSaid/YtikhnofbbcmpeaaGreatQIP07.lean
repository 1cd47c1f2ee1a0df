/- Several texts in one (wip/pack.py): XInq6D XInq6 XInqHD XInqH XInqS1D XInqS1 XInqS2D XInqS2 XInqLProvedD XInqLProved XInqPa XInqPb XInqPc XInqPd XInqPe XInqPf XInqPg XInqPh XInqPi. -/
import Derived.Test.YtikhnofbbcmpeaaGreatRows
import Derived.Test.YtikhnofbbcmpeaaGreatQIP05
import Derived.Test.YtikhnofbbcmpeaaGreatQIP06
set_option maxRecDepth 100000
set_option linter.unusedVariables false
namespace Go.Proofs.YtikhnofbbcmpeaaGreat
open Go Go.Sy
noncomputable def xjH (office_Owner t delay : Int) (office_Lines ships list : List (List Int)) (y0 : List U) : List (List Int) :=
 putRow 1 [(ships.getD (gi y0 2).toNat []).getD 0 (0 : Int)]
 [(ships.getD (gi y0 2).toNat []).getD 0 (0 : Int), encL (decL ((ships.getD (gi y0 2).toNat []).getD 1 (0 : Int)))] (gr y0 3)
noncomputable def xb5 (office_Owner t delay : Int) (office_Lines ships list : List (List Int)) : List U :=
 [.b (false), .i ((0 : Int)), .i ((0 : Int)), .r ([])]
noncomputable def xbb (office_Owner t delay : Int) (office_Lines ships list : List (List Int)) (y0 : List U) : Option (Nat × List U) :=
 (bif decide (gi y0 2 < (↑ships.length : Int)) then xae (inR (gi y0 2) ships) (xae (inR (gi y0 2) ships) (xae (xaz ((ships.getD (gi y0 2).toNat []).getD 0 (0 : Int)) (decL ((ships.getD (gi y0 2).toNat []).getD 1 (0 : Int)))) ((bif !xad ((ships.getD (gi y0 2).toNat []).getD 0 (0 : Int)) (decL ((ships.getD (gi y0 2).toNat []).getD 1 (0 : Int))) ||
 decide ((ships.getD (gi y0 2).toNat []).getD 0 (0 : Int) ≤ gi y0 1) then some (1, [.i (office_Owner), .i (t), .i (delay), .r (gr y0 3)]) else some (0, [.b (gb y0 0), .i ((ships.getD (gi y0 2).toNat []).getD 0 (0 : Int)), .i (IntKind.i64.wrap (gi y0 2 + (1 : Int))), .r ((xjH office_Owner t delay office_Lines ships list y0))]))))) else some (3, [.b (gb y0 0), .i (gi y0 1), .i (gi y0 2), .r (gr y0 3)]))
noncomputable def xao (office_Owner t delay : Int) (office_Lines ships list : List (List Int)) : Nat × List U := xaw (xbb office_Owner t delay office_Lines ships list) (xb5 office_Owner t delay office_Lines ships list)
noncomputable def xcN (office_Owner t delay : Int) (office_Lines ships list : List (List Int)) : List U :=
 [.i ((0 : Int)), .i ((0 : Int))]
noncomputable def xba (office_Owner t delay : Int) (office_Lines ships list : List (List Int)) (y1 : List U) : Option (Nat × List U) :=
 (bif decide (gi y1 1 < (↑list.length : Int)) then xae (inR (gi y1 1) list) (xae (inR (gi y1 1) list) ((bif !(xbP 1 [(list.getD (gi y1 1).toNat []).getD 0 (0 : Int)] (gr (xao office_Owner t delay office_Lines ships list).snd 3)).isSome then some (1, [.i (gi y1 1)]) else some (0, [.i (gi y1 0), .i (IntKind.i64.wrap (gi y1 1 + (1 : Int)))])))) else some (3, [.i (gi y1 0), .i (gi y1 1)]))
noncomputable def xbD (office_Owner t delay : Int) (office_Lines ships list : List (List Int)) : Nat × List U := xaw (xba office_Owner t delay office_Lines ships list) (xcN office_Owner t delay office_Lines ships list)
noncomputable def xgK (office_Owner t delay : Int) (office_Lines ships list : List (List Int)) (y2 : List U) : List Int :=
 [((xal office_Owner t delay office_Lines (gr (xao office_Owner t delay office_Lines ships list).snd 3) list).getD (gi y2 0).toNat []).getD 0 (0 : Int),
 ((xal office_Owner t delay office_Lines (gr (xao office_Owner t delay office_Lines ships list).snd 3) list).getD (gi y2 0).toNat []).getD 1 (0 : Int)]
noncomputable def xgd (office_Owner t delay : Int) (office_Lines ships list : List (List Int)) : List U :=
 [.i ((0 : Int)), .r ([])]
noncomputable def xb4 (office_Owner t delay : Int) (office_Lines ships list : List (List Int)) (y2 : List U) : Option (Nat × List U) :=
 (bif decide (gi y2 0 < (↑(xal office_Owner t delay office_Lines (gr (xao office_Owner t delay office_Lines ships list).snd 3) list).length : Int)) then xae (inR (gi y2 0) (xal office_Owner t delay office_Lines (gr (xao office_Owner t delay office_Lines ships list).snd 3) list)) (xae (inR (gi y2 0) (xal office_Owner t delay office_Lines (gr (xao office_Owner t delay office_Lines ships list).snd 3) list)) (xae (xbJ 16 ((gr y2 1).length + [(xgK office_Owner t delay office_Lines ships list y2)].length)) (some (0, [.i (IntKind.i64.wrap (gi y2 0 + (1 : Int))), .r (gr y2 1 ++ [(xgK office_Owner t delay office_Lines ships list y2)])])))) else some (2, [.i (gi y2 0), .r (gr y2 1)]))
noncomputable def xjI (office_Owner t delay : Int) (office_Lines ships list : List (List Int)) : Nat × List U := xaw (xb4 office_Owner t delay office_Lines ships list) (xgd office_Owner t delay office_Lines ships list)
noncomputable def xjG (office_Owner t delay : Int) (office_Lines ships list : List (List Int)) : List (List Int) :=
 bif !!decide ((bif (xbD office_Owner t delay office_Lines ships list).fst.beq 1 then gi (xbD office_Owner t delay office_Lines ships list).snd 0 else (-1 : Int)) ≥ (0 : Int)) then [] else gr (xjI office_Owner t delay office_Lines ships list).snd 1
noncomputable def xjF (office_Owner t delay : Int) (office_Lines ships list : List (List Int)) : List (List Int) :=
 bif !xad office_Owner office_Lines || office_Owner != (0 : Int) || !xau list || !xar t || decide (delay < (0 : Int)) || decide (delay > (100000 : Int)) then []
else bif (xao office_Owner t delay office_Lines ships list).fst.beq 1 then [] else (xjG office_Owner t delay office_Lines ships list)
noncomputable def xdL (office_Owner t delay : Int) (office_Lines ships list : List (List Int)) : List (List Int) :=
 (xjF office_Owner t delay office_Lines ships list)
noncomputable def xjE (office_Owner t delay : Int) (office_Lines ships list : List (List Int)) : Int :=
 bif !!decide ((bif (xbD office_Owner t delay office_Lines ships list).fst.beq 1 then gi (xbD office_Owner t delay office_Lines ships list).snd 0 else (-1 : Int)) ≥ (0 : Int)) then (1 : Int) else (0 : Int)
noncomputable def xjD (office_Owner t delay : Int) (office_Lines ships list : List (List Int)) : Int :=
 bif !xad office_Owner office_Lines || office_Owner != (0 : Int) || !xau list || !xar t || decide (delay < (0 : Int)) || decide (delay > (100000 : Int)) then
 (1 : Int)
else bif (xao office_Owner t delay office_Lines ships list).fst.beq 1 then (1 : Int) else (xjE office_Owner t delay office_Lines ships list)
noncomputable def xdK (office_Owner t delay : Int) (office_Lines ships list : List (List Int)) : Int :=
 (xjD office_Owner t delay office_Lines ships list)
def xcH (office_Owner t delay : Int) (office_Lines ships list : List (List Int)) : Prop :=
 ((xaz office_Owner office_Lines) ∧ ((((!xad office_Owner office_Lines || office_Owner != (0 : Int)) = false) → (xbq list)) ∧ (((!xad office_Owner office_Lines || office_Owner != (0 : Int) || !xau list || !xar t || decide (delay < (0 : Int)) || decide (delay > (100000 : Int))) = false) → (((xaH (xbb office_Owner t delay office_Lines ships list) (xb5 office_Owner t delay office_Lines ships list))) ∧ (((xao office_Owner t delay office_Lines ships list).fst.beq 1 = false) → (((xaH (xba office_Owner t delay office_Lines ships list) (xcN office_Owner t delay office_Lines ships list))) ∧ (((!!decide ((bif (xbD office_Owner t delay office_Lines ships list).fst.beq 1 then gi (xbD office_Owner t delay office_Lines ships list).snd 0 else (-1 : Int)) ≥ (0 : Int))) = false) → ((xcI office_Owner t delay office_Lines (gr (xao office_Owner t delay office_Lines ships list).snd 3) list) ∧ ((xaH (xb4 office_Owner t delay office_Lines ships list) (xgd office_Owner t delay office_Lines ships list)))))))))))
noncomputable def xlN (office_Owner t delay : Int) (office_Lines ships list : List (List Int)) (y0 : List U) : List (List Int) :=
 putRow 1 [(ships.getD (gi y0 2).toNat []).getD 0 (0 : Int)]
 [(ships.getD (gi y0 2).toNat []).getD 0 (0 : Int), encL (decL ((ships.getD (gi y0 2).toNat []).getD 1 (0 : Int)))] (gr y0 3)
noncomputable def xdz (office_Owner t delay : Int) (office_Lines ships list : List (List Int)) : List U :=
 [.b (false), .i ((0 : Int)), .i ((0 : Int)), .r ([])]
noncomputable def xdy (office_Owner t delay : Int) (office_Lines ships list : List (List Int)) (y0 : List U) : Option (Nat × List U) :=
 (bif decide (gi y0 2 < (↑ships.length : Int)) then xae (inR (gi y0 2) ships) (xae (inR (gi y0 2) ships) (xae (xaz ((ships.getD (gi y0 2).toNat []).getD 0 (0 : Int)) (decL ((ships.getD (gi y0 2).toNat []).getD 1 (0 : Int)))) ((bif !xad ((ships.getD (gi y0 2).toNat []).getD 0 (0 : Int)) (decL ((ships.getD (gi y0 2).toNat []).getD 1 (0 : Int))) ||
 decide ((ships.getD (gi y0 2).toNat []).getD 0 (0 : Int) ≤ gi y0 1) then some (1, [.i (office_Owner), .i (t), .i (delay), .r (gr y0 3)]) else some (0, [.b (gb y0 0), .i ((ships.getD (gi y0 2).toNat []).getD 0 (0 : Int)), .i (IntKind.i64.wrap (gi y0 2 + (1 : Int))), .r ((xlN office_Owner t delay office_Lines ships list y0))]))))) else some (3, [.b (gb y0 0), .i (gi y0 1), .i (gi y0 2), .r (gr y0 3)]))
noncomputable def xaI (office_Owner t delay : Int) (office_Lines ships list : List (List Int)) : Nat × List U := xaw (xdy office_Owner t delay office_Lines ships list) (xdz office_Owner t delay office_Lines ships list)
noncomputable def xdx (office_Owner t delay : Int) (office_Lines ships list : List (List Int)) : List U :=
 [.i ((0 : Int)), .i ((0 : Int))]
noncomputable def xdw (office_Owner t delay : Int) (office_Lines ships list : List (List Int)) (y1 : List U) : Option (Nat × List U) :=
 (bif decide (gi y1 1 < (↑list.length : Int)) then xae (inR (gi y1 1) list) (xae (inR (gi y1 1) list) ((bif !(xbP 1 [(list.getD (gi y1 1).toNat []).getD 0 (0 : Int)] (gr (xaI office_Owner t delay office_Lines ships list).snd 3)).isSome then some (1, [.i (gi y1 1)]) else some (0, [.i (gi y1 0), .i (IntKind.i64.wrap (gi y1 1 + (1 : Int)))])))) else some (3, [.i (gi y1 0), .i (gi y1 1)]))
noncomputable def xbk (office_Owner t delay : Int) (office_Lines ships list : List (List Int)) : Nat × List U := xaw (xdw office_Owner t delay office_Lines ships list) (xdx office_Owner t delay office_Lines ships list)
noncomputable def xha (office_Owner t delay : Int) (office_Lines ships list : List (List Int)) : List (List Int) :=
 bif !!decide ((bif (xbk office_Owner t delay office_Lines ships list).fst.beq 1 then gi (xbk office_Owner t delay office_Lines ships list).snd 0 else (-1 : Int)) ≥ (0 : Int)) then []
else xb7 (xal office_Owner t delay office_Lines (gr (xaI office_Owner t delay office_Lines ships list).snd 3) list)
noncomputable def xg9 (office_Owner t delay : Int) (office_Lines ships list : List (List Int)) : List (List Int) :=
 bif !xad office_Owner office_Lines || office_Owner != (0 : Int) || !xau list || !xar t || decide (delay < (0 : Int)) || decide (delay > (100000 : Int)) then []
else bif (xaI office_Owner t delay office_Lines ships list).fst.beq 1 then [] else (xha office_Owner t delay office_Lines ships list)
noncomputable def xaZ (office_Owner t delay : Int) (office_Lines ships list : List (List Int)) : List (List Int) :=
 (xg9 office_Owner t delay office_Lines ships list)
noncomputable def xg8 (office_Owner t delay : Int) (office_Lines ships list : List (List Int)) : List (List Int) :=
 bif !!decide ((bif (xbk office_Owner t delay office_Lines ships list).fst.beq 1 then gi (xbk office_Owner t delay office_Lines ships list).snd 0 else (-1 : Int)) ≥ (0 : Int)) then []
else
 xwa (↑(xb7 (xal office_Owner t delay office_Lines (gr (xaI office_Owner t delay office_Lines ships list).snd 3) list)).length : Int)
  (xal office_Owner t delay office_Lines (gr (xaI office_Owner t delay office_Lines ships list).snd 3) list)
noncomputable def xg7 (office_Owner t delay : Int) (office_Lines ships list : List (List Int)) : List (List Int) :=
 bif !xad office_Owner office_Lines || office_Owner != (0 : Int) || !xau list || !xar t || decide (delay < (0 : Int)) || decide (delay > (100000 : Int)) then []
else bif (xaI office_Owner t delay office_Lines ships list).fst.beq 1 then [] else (xg8 office_Owner t delay office_Lines ships list)
noncomputable def xa8 (office_Owner t delay : Int) (office_Lines ships list : List (List Int)) : List (List Int) :=
 (xg7 office_Owner t delay office_Lines ships list)
noncomputable def xg6 (office_Owner t delay : Int) (office_Lines ships list : List (List Int)) : Int :=
 bif !!decide ((bif (xbk office_Owner t delay office_Lines ships list).fst.beq 1 then gi (xbk office_Owner t delay office_Lines ships list).snd 0 else (-1 : Int)) ≥ (0 : Int)) then (1 : Int) else (0 : Int)
noncomputable def xg5 (office_Owner t delay : Int) (office_Lines ships list : List (List Int)) : Int :=
 bif !xad office_Owner office_Lines || office_Owner != (0 : Int) || !xau list || !xar t || decide (delay < (0 : Int)) || decide (delay > (100000 : Int)) then
 (1 : Int)
else bif (xaI office_Owner t delay office_Lines ships list).fst.beq 1 then (1 : Int) else (xg6 office_Owner t delay office_Lines ships list)
noncomputable def xbv (office_Owner t delay : Int) (office_Lines ships list : List (List Int)) : Int :=
 (xg5 office_Owner t delay office_Lines ships list)
def xbr (office_Owner t delay : Int) (office_Lines ships list : List (List Int)) : Prop :=
 ((xaz office_Owner office_Lines) ∧ ((((!xad office_Owner office_Lines || office_Owner != (0 : Int)) = false) → (xbq list)) ∧ (((!xad office_Owner office_Lines || office_Owner != (0 : Int) || !xau list || !xar t || decide (delay < (0 : Int)) || decide (delay > (100000 : Int))) = false) → (((xaH (xdy office_Owner t delay office_Lines ships list) (xdz office_Owner t delay office_Lines ships list))) ∧ (((xaI office_Owner t delay office_Lines ships list).fst.beq 1 = false) → (((xaH (xdw office_Owner t delay office_Lines ships list) (xdx office_Owner t delay office_Lines ships list))) ∧ (((!!decide ((bif (xbk office_Owner t delay office_Lines ships list).fst.beq 1 then gi (xbk office_Owner t delay office_Lines ships list).snd 0 else (-1 : Int)) ≥ (0 : Int))) = false) → ((xcI office_Owner t delay office_Lines (gr (xaI office_Owner t delay office_Lines ships list).snd 3) list) ∧ ((xbX (xal office_Owner t delay office_Lines (gr (xaI office_Owner t delay office_Lines ships list).snd 3) list)) ∧ (xrZ (↑(xb7 (xal office_Owner t delay office_Lines (gr (xaI office_Owner t delay office_Lines ships list).snd 3) list)).length : Int)
 (xal office_Owner t delay office_Lines (gr (xaI office_Owner t delay office_Lines ships list).snd 3) list)))))))))))
noncomputable def xmC (office_Owner t delay : Int) (office_Lines ships list omissions proof : List (List Int)) (y0 : List U) : List (List Int) :=
 putRow 1 [(ships.getD (gi y0 2).toNat []).getD 0 (0 : Int)]
 [(ships.getD (gi y0 2).toNat []).getD 0 (0 : Int), encL (decL ((ships.getD (gi y0 2).toNat []).getD 1 (0 : Int)))] (gr y0 3)
noncomputable def xd1 (office_Owner t delay : Int) (office_Lines ships list omissions proof : List (List Int)) : List U :=
 [.b (false), .i ((0 : Int)), .i ((0 : Int)), .r ([])]
noncomputable def xd0 (office_Owner t delay : Int) (office_Lines ships list omissions proof : List (List Int)) (y0 : List U) : Option (Nat × List U) :=
 (bif decide (gi y0 2 < (↑ships.length : Int)) then xae (inR (gi y0 2) ships) (xae (inR (gi y0 2) ships) (xae (xaz ((ships.getD (gi y0 2).toNat []).getD 0 (0 : Int)) (decL ((ships.getD (gi y0 2).toNat []).getD 1 (0 : Int)))) ((bif !xad ((ships.getD (gi y0 2).toNat []).getD 0 (0 : Int)) (decL ((ships.getD (gi y0 2).toNat []).getD 1 (0 : Int))) ||
 decide ((ships.getD (gi y0 2).toNat []).getD 0 (0 : Int) ≤ gi y0 1) then some (1, [.i (office_Owner), .i (t), .i (delay), .r (gr y0 3)]) else some (0, [.b (gb y0 0), .i ((ships.getD (gi y0 2).toNat []).getD 0 (0 : Int)), .i (IntKind.i64.wrap (gi y0 2 + (1 : Int))), .r ((xmC office_Owner t delay office_Lines ships list omissions proof y0))]))))) else some (3, [.b (gb y0 0), .i (gi y0 1), .i (gi y0 2), .r (gr y0 3)]))
noncomputable def xan (office_Owner t delay : Int) (office_Lines ships list omissions proof : List (List Int)) : Nat × List U := xaw (xd0 office_Owner t delay office_Lines ships list omissions proof) (xd1 office_Owner t delay office_Lines ships list omissions proof)
noncomputable def xdZ (office_Owner t delay : Int) (office_Lines ships list omissions proof : List (List Int)) : List U :=
 [.i ((0 : Int)), .i ((0 : Int))]
noncomputable def xdY (office_Owner t delay : Int) (office_Lines ships list omissions proof : List (List Int)) (y1 : List U) : Option (Nat × List U) :=
 (bif decide (gi y1 1 < (↑list.length : Int)) then xae (inR (gi y1 1) list) (xae (inR (gi y1 1) list) ((bif !(xbP 1 [(list.getD (gi y1 1).toNat []).getD 0 (0 : Int)] (gr (xan office_Owner t delay office_Lines ships list omissions proof).snd 3)).isSome then some (1, [.i (gi y1 1)]) else some (0, [.i (gi y1 0), .i (IntKind.i64.wrap (gi y1 1 + (1 : Int)))])))) else some (3, [.i (gi y1 0), .i (gi y1 1)]))
noncomputable def xcm (office_Owner t delay : Int) (office_Lines ships list omissions proof : List (List Int)) : Nat × List U := xaw (xdY office_Owner t delay office_Lines ships list omissions proof) (xdZ office_Owner t delay office_Lines ships list omissions proof)
noncomputable def xh3 (office_Owner t delay : Int) (office_Lines ships list omissions proof : List (List Int)) (y2 : List U) : Int :=
 xcX ((omissions.getD (IntKind.i64.wrap (gi y2 1 - (1 : Int))).toNat []).getD 0 (0 : Int))
 ((omissions.getD (IntKind.i64.wrap (gi y2 1 - (1 : Int))).toNat []).getD 1 (0 : Int))
 ((omissions.getD (IntKind.i64.wrap (gi y2 1 - (1 : Int))).toNat []).getD 2 (0 : Int)) ((omissions.getD (gi y2 1).toNat []).getD 0 (0 : Int))
 ((omissions.getD (gi y2 1).toNat []).getD 1 (0 : Int)) ((omissions.getD (gi y2 1).toNat []).getD 2 (0 : Int))
noncomputable def xdX (office_Owner t delay : Int) (office_Lines ships list omissions proof : List (List Int)) : List U :=
 [.b (false), .i ((1 : Int))]
noncomputable def xcj (office_Owner t delay : Int) (office_Lines ships list omissions proof : List (List Int)) (y2 : List U) : Option (Nat × List U) :=
 (bif decide (gi y2 1 < (↑omissions.length : Int)) then xae (inR (IntKind.i64.wrap (gi y2 1 - (1 : Int))) omissions) (xae (inR (IntKind.i64.wrap (gi y2 1 - (1 : Int))) omissions) (xae (inR (gi y2 1) omissions) (xae (inR (gi y2 1) omissions) (xae (xbK ((omissions.getD (IntKind.i64.wrap (gi y2 1 - (1 : Int))).toNat []).getD 0 (0 : Int))
 ((omissions.getD (IntKind.i64.wrap (gi y2 1 - (1 : Int))).toNat []).getD 1 (0 : Int))
 ((omissions.getD (IntKind.i64.wrap (gi y2 1 - (1 : Int))).toNat []).getD 2 (0 : Int)) ((omissions.getD (gi y2 1).toNat []).getD 0 (0 : Int))
 ((omissions.getD (gi y2 1).toNat []).getD 1 (0 : Int)) ((omissions.getD (gi y2 1).toNat []).getD 2 (0 : Int))) ((bif decide ((xh3 office_Owner t delay office_Lines ships list omissions proof y2) ≥ (0 : Int)) then some (1, []) else some (0, [.b (gb y2 0), .i (IntKind.i64.wrap (gi y2 1 + (1 : Int)))]))))))) else some (3, [.b (gb y2 0), .i (gi y2 1)]))
noncomputable def xdq (office_Owner t delay : Int) (office_Lines ships list omissions proof : List (List Int)) : Nat × List U := xaw (xcj office_Owner t delay office_Lines ships list omissions proof) (xdX office_Owner t delay office_Lines ships list omissions proof)
noncomputable def xh2 (office_Owner t delay : Int) (office_Lines ships list omissions proof : List (List Int)) (y3 : List U) : Int :=
 xeh ((proof.getD (IntKind.i64.wrap (gi y3 1 - (1 : Int))).toNat []).getD 0 (0 : Int))
 ((proof.getD (IntKind.i64.wrap (gi y3 1 - (1 : Int))).toNat []).getD 1 (0 : Int)) ((proof.getD (gi y3 1).toNat []).getD 0 (0 : Int))
 ((proof.getD (gi y3 1).toNat []).getD 1 (0 : Int))
noncomputable def xdW (office_Owner t delay : Int) (office_Lines ships list omissions proof : List (List Int)) : List U :=
 [.b (false), .i ((1 : Int))]
noncomputable def xci (office_Owner t delay : Int) (office_Lines ships list omissions proof : List (List Int)) (y3 : List U) : Option (Nat × List U) :=
 (bif decide (gi y3 1 < (↑proof.length : Int)) then xae (inR (IntKind.i64.wrap (gi y3 1 - (1 : Int))) proof) (xae (inR (IntKind.i64.wrap (gi y3 1 - (1 : Int))) proof) (xae (inR (gi y3 1) proof) (xae (inR (gi y3 1) proof) (xae (xcW ((proof.getD (IntKind.i64.wrap (gi y3 1 - (1 : Int))).toNat []).getD 0 (0 : Int))
 ((proof.getD (IntKind.i64.wrap (gi y3 1 - (1 : Int))).toNat []).getD 1 (0 : Int)) ((proof.getD (gi y3 1).toNat []).getD 0 (0 : Int))
 ((proof.getD (gi y3 1).toNat []).getD 1 (0 : Int))) ((bif decide ((xh2 office_Owner t delay office_Lines ships list omissions proof y3) ≥ (0 : Int)) then some (1, []) else some (0, [.b (gb y3 0), .i (IntKind.i64.wrap (gi y3 1 + (1 : Int)))]))))))) else some (3, [.b (gb y3 0), .i (gi y3 1)]))
noncomputable def xev (office_Owner t delay : Int) (office_Lines ships list omissions proof : List (List Int)) : Nat × List U := xaw (xci office_Owner t delay office_Lines ships list omissions proof) (xdW office_Owner t delay office_Lines ships list omissions proof)
noncomputable def xdU (office_Owner t delay : Int) (office_Lines ships list omissions proof : List (List Int)) (y4 : List U) : List U :=
 [.i ((0 : Int)), .i ((0 : Int))]
noncomputable def xch (office_Owner t delay : Int) (office_Lines ships list omissions proof : List (List Int)) (y4 : List U) (y5 : List U) : Option (Nat × List U) :=
 (bif decide (gi y5 1 < (↑omissions.length : Int)) then xae (inR (gi y5 1) omissions) (xae (inR (gi y5 1) omissions) ((bif xfH (((xal office_Owner t delay office_Lines (gr (xan office_Owner t delay office_Lines ships list omissions proof).snd 3) list).getD (gi y4 2).toNat []).getD 0 (0 : Int))
 (((xal office_Owner t delay office_Lines (gr (xan office_Owner t delay office_Lines ships list omissions proof).snd 3) list).getD (gi y4 2).toNat []).getD 1 (0 : Int))
 (((xal office_Owner t delay office_Lines (gr (xan office_Owner t delay office_Lines ships list omissions proof).snd 3) list).getD (gi y4 2).toNat []).getD 2 (0 : Int) != (0 : Int))
 (((xal office_Owner t delay office_Lines (gr (xan office_Owner t delay office_Lines ships list omissions proof).snd 3) list).getD (gi y4 2).toNat []).getD 3 (0 : Int) != (0 : Int))
 ((omissions.getD (gi y5 1).toNat []).getD 0 (0 : Int)) ((omissions.getD (gi y5 1).toNat []).getD 1 (0 : Int))
 ((omissions.getD (gi y5 1).toNat []).getD 2 (0 : Int)) then some (1, [.i (gi y5 1)]) else some (0, [.i (gi y5 0), .i (IntKind.i64.wrap (gi y5 1 + (1 : Int)))])))) else some (3, [.i (gi y5 0), .i (gi y5 1)]))
noncomputable def xeu (office_Owner t delay : Int) (office_Lines ships list omissions proof : List (List Int)) (y4 : List U) : Nat × List U := xaw (xch office_Owner t delay office_Lines ships list omissions proof y4) (xdU office_Owner t delay office_Lines ships list omissions proof y4)
noncomputable def xdT (office_Owner t delay : Int) (office_Lines ships list omissions proof : List (List Int)) (y4 : List U) : List U :=
 [.i ((0 : Int)), .i ((0 : Int))]
noncomputable def xcg (office_Owner t delay : Int) (office_Lines ships list omissions proof : List (List Int)) (y4 : List U) (y6 : List U) : Option (Nat × List U) :=
 (bif decide (gi y6 1 < (↑proof.length : Int)) then xae (inR (gi y6 1) proof) (xae (inR (gi y6 1) proof) ((bif ((xal office_Owner t delay office_Lines (gr (xan office_Owner t delay office_Lines ships list omissions proof).snd 3) list).getD (gi y4 2).toNat []).getD 0 (0 : Int) ==
  (proof.getD (gi y6 1).toNat []).getD 0 (0 : Int) &&
 (((xal office_Owner t delay office_Lines (gr (xan office_Owner t delay office_Lines ships list omissions proof).snd 3) list).getD (gi y4 2).toNat []).getD 1 (0 : Int) ==
   (proof.getD (gi y6 1).toNat []).getD 1 (0 : Int) &&
  true) then some (1, [.i (gi y6 1)]) else some (0, [.i (gi y6 0), .i (IntKind.i64.wrap (gi y6 1 + (1 : Int)))])))) else some (3, [.i (gi y6 0), .i (gi y6 1)]))
noncomputable def xet (office_Owner t delay : Int) (office_Lines ships list omissions proof : List (List Int)) (y4 : List U) : Nat × List U := xaw (xcg office_Owner t delay office_Lines ships list omissions proof y4) (xdT office_Owner t delay office_Lines ships list omissions proof y4)
noncomputable def xdS (office_Owner t delay : Int) (office_Lines ships list omissions proof : List (List Int)) (y4 : List U) : List U :=
 [.i ((0 : Int)), .i ((0 : Int))]
noncomputable def xcf (office_Owner t delay : Int) (office_Lines ships list omissions proof : List (List Int)) (y4 : List U) (y7 : List U) : Option (Nat × List U) :=
 (bif decide (gi y7 1 < (↑(gr y4 3).length : Int)) then xae (inR (gi y7 1) (gr y4 3)) (xae (inR (gi y7 1) (gr y4 3)) ((bif !xfg (((xal office_Owner t delay office_Lines (gr (xan office_Owner t delay office_Lines ships list omissions proof).snd 3) list).getD (gi y4 2).toNat []).getD 0 (0 : Int))
  (((xal office_Owner t delay office_Lines (gr (xan office_Owner t delay office_Lines ships list omissions proof).snd 3) list).getD (gi y4 2).toNat []).getD 1 (0 : Int))
  (((xal office_Owner t delay office_Lines (gr (xan office_Owner t delay office_Lines ships list omissions proof).snd 3) list).getD (gi y4 2).toNat []).getD 2 (0 : Int) != (0 : Int))
  (((xal office_Owner t delay office_Lines (gr (xan office_Owner t delay office_Lines ships list omissions proof).snd 3) list).getD (gi y4 2).toNat []).getD 3 (0 : Int) != (0 : Int))
  (((gr y4 3).getD (gi y7 1).toNat []).getD 0 (0 : Int)) (((gr y4 3).getD (gi y7 1).toNat []).getD 1 (0 : Int))
  (((gr y4 3).getD (gi y7 1).toNat []).getD 2 (0 : Int) != (0 : Int)) (((gr y4 3).getD (gi y7 1).toNat []).getD 3 (0 : Int) != (0 : Int)) then some (1, [.i (gi y7 1)]) else some (0, [.i (gi y7 0), .i (IntKind.i64.wrap (gi y7 1 + (1 : Int)))])))) else some (3, [.i (gi y7 0), .i (gi y7 1)]))
noncomputable def xes (office_Owner t delay : Int) (office_Lines ships list omissions proof : List (List Int)) (y4 : List U) : Nat × List U := xaw (xcf office_Owner t delay office_Lines ships list omissions proof y4) (xdS office_Owner t delay office_Lines ships list omissions proof y4)
noncomputable def xh1 (office_Owner t delay : Int) (office_Lines ships list omissions proof : List (List Int)) (y4 : List U) : List Int :=
 [bif ((xal office_Owner t delay office_Lines (gr (xan office_Owner t delay office_Lines ships list omissions proof).snd 3) list).getD (gi y4 2).toNat []).getD 2 (0 : Int) != (0 : Int) then (1 : Int)
 else (0 : Int),
 bif ((xal office_Owner t delay office_Lines (gr (xan office_Owner t delay office_Lines ships list omissions proof).snd 3) list).getD (gi y4 2).toNat []).getD 3 (0 : Int) != (0 : Int) then (1 : Int)
 else (0 : Int)]
noncomputable def xer (office_Owner t delay : Int) (office_Lines ships list omissions proof : List (List Int)) (y4 : List U) : List Int :=
 ((xal office_Owner t delay office_Lines (gr (xan office_Owner t delay office_Lines ships list omissions proof).snd 3) list).getD (gi y4 2).toNat []).getD 0 (0 : Int) ::
 ((xal office_Owner t delay office_Lines (gr (xan office_Owner t delay office_Lines ships list omissions proof).snd 3) list).getD (gi y4 2).toNat []).getD 1 (0 : Int) :: (xh1 office_Owner t delay office_Lines ships list omissions proof y4)
noncomputable def xdV (office_Owner t delay : Int) (office_Lines ships list omissions proof : List (List Int)) : List U :=
 [.b (false), .i ((0 : Int)), .i ((0 : Int)), .r ([])]
noncomputable def xbe (office_Owner t delay : Int) (office_Lines ships list omissions proof : List (List Int)) (y4 : List U) : Option (Nat × List U) :=
 (bif decide (gi y4 2 < (↑(xal office_Owner t delay office_Lines (gr (xan office_Owner t delay office_Lines ships list omissions proof).snd 3) list).length : Int)) then xae (inR (gi y4 2) (xal office_Owner t delay office_Lines (gr (xan office_Owner t delay office_Lines ships list omissions proof).snd 3) list)) (xae (inR (gi y4 2) (xal office_Owner t delay office_Lines (gr (xan office_Owner t delay office_Lines ships list omissions proof).snd 3) list)) (xae ((xaH (xch office_Owner t delay office_Lines ships list omissions proof y4) (xdU office_Owner t delay office_Lines ships list omissions proof y4))) ((bif !decide ((bif (xeu office_Owner t delay office_Lines ships list omissions proof y4).fst.beq 1 then gi (xeu office_Owner t delay office_Lines ships list omissions proof y4).snd 0 else (-1 : Int)) ≥ (0 : Int)) then some (1, []) else xae ((xaH (xcg office_Owner t delay office_Lines ships list omissions proof y4) (xdT office_Owner t delay office_Lines ships list omissions proof y4))) ((bif decide ((bif (xet office_Owner t delay office_Lines ships list omissions proof y4).fst.beq 1 then gi (xet office_Owner t delay office_Lines ships list omissions proof y4).snd 0 else (-1 : Int)) ≥ (0 : Int)) then xae ((xaH (xcf office_Owner t delay office_Lines ships list omissions proof y4) (xdS office_Owner t delay office_Lines ships list omissions proof y4))) ((bif decide ((bif (xes office_Owner t delay office_Lines ships list omissions proof y4).fst.beq 1 then gi (xes office_Owner t delay office_Lines ships list omissions proof y4).snd 0 else (-1 : Int)) ≥ (0 : Int)) then some (2, []) else xae (xbJ 24 ((gr y4 3).length + [(xer office_Owner t delay office_Lines ships list omissions proof y4)].length)) (some (0, [.b (gb y4 0), .i (gi y4 1), .i (IntKind.i64.wrap (gi y4 2 + (1 : Int))), .r (gr y4 3 ++ [(xer office_Owner t delay office_Lines ships list omissions proof y4)])])))) else some (0, [.b (gb y4 0), .i (gi y4 1), .i (IntKind.i64.wrap (gi y4 2 + (1 : Int))), .r (gr y4 3)]))))))) else some (5, [.b (gb y4 0), .i (gi y4 1), .i (gi y4 2), .r (gr y4 3)]))
noncomputable def xa4 (office_Owner t delay : Int) (office_Lines ships list omissions proof : List (List Int)) : Nat × List U := xaw (xbe office_Owner t delay office_Lines ships list omissions proof) (xdV office_Owner t delay office_Lines ships list omissions proof)
noncomputable def xbI (office_Owner t delay : Int) (office_Lines ships list omissions proof : List (List Int)) : Bool :=
 bif !xad office_Owner office_Lines || office_Owner != (0 : Int) || !xau list || !xar t || decide (delay < (0 : Int)) || decide (delay > (100000 : Int)) then false
else
 bif (xan office_Owner t delay office_Lines ships list omissions proof).fst.beq 1 then false
 else
  bif !!decide ((bif (xcm office_Owner t delay office_Lines ships list omissions proof).fst.beq 1 then gi (xcm office_Owner t delay office_Lines ships list omissions proof).snd 0 else (-1 : Int)) ≥ (0 : Int)) then false
  else
   bif
     ((↑omissions.length : Int) != (↑proof.length : Int) || !bif (xdq office_Owner t delay office_Lines ships list omissions proof).fst.beq 1 then false else true) ||
      !bif (xev office_Owner t delay office_Lines ships list omissions proof).fst.beq 1 then false else true then
    false
   else
    bif (xa4 office_Owner t delay office_Lines ships list omissions proof).fst.beq 1 then false
    else bif (xa4 office_Owner t delay office_Lines ships list omissions proof).fst.beq 2 then false else (↑(gr (xa4 office_Owner t delay office_Lines ships list omissions proof).snd 3).length : Int) == (↑proof.length : Int)
noncomputable def xh0 (office_Owner t delay : Int) (office_Lines ships list omissions proof : List (List Int)) : Int :=
 bif ((↑omissions.length : Int) != (↑proof.length : Int) || !bif (xdq office_Owner t delay office_Lines ships list omissions proof).fst.beq 1 then false else true) || !bif (xev office_Owner t delay office_Lines ships list omissions proof).fst.beq 1 then false else true then
 (0 : Int)
else bif (xa4 office_Owner t delay office_Lines ships list omissions proof).fst.beq 1 then (0 : Int) else bif (xa4 office_Owner t delay office_Lines ships list omissions proof).fst.beq 2 then (0 : Int) else (0 : Int)
noncomputable def xhZ (office_Owner t delay : Int) (office_Lines ships list omissions proof : List (List Int)) : Int :=
 bif !!decide ((bif (xcm office_Owner t delay office_Lines ships list omissions proof).fst.beq 1 then gi (xcm office_Owner t delay office_Lines ships list omissions proof).snd 0 else (-1 : Int)) ≥ (0 : Int)) then (1 : Int) else (xh0 office_Owner t delay office_Lines ships list omissions proof)
noncomputable def xhY (office_Owner t delay : Int) (office_Lines ships list omissions proof : List (List Int)) : Int :=
 bif !xad office_Owner office_Lines || office_Owner != (0 : Int) || !xau list || !xar t || decide (delay < (0 : Int)) || decide (delay > (100000 : Int)) then
 (1 : Int)
else bif (xan office_Owner t delay office_Lines ships list omissions proof).fst.beq 1 then (1 : Int) else (xhZ office_Owner t delay office_Lines ships list omissions proof)
noncomputable def xb8 (office_Owner t delay : Int) (office_Lines ships list omissions proof : List (List Int)) : Int :=
 (xhY office_Owner t delay office_Lines ships list omissions proof)
def xbj (office_Owner t delay : Int) (office_Lines ships list omissions proof : List (List Int)) : Prop :=
 ((xaz office_Owner office_Lines) ∧ ((((!xad office_Owner office_Lines || office_Owner != (0 : Int)) = false) → (xbq list)) ∧ (((!xad office_Owner office_Lines || office_Owner != (0 : Int) || !xau list || !xar t || decide (delay < (0 : Int)) || decide (delay > (100000 : Int))) = false) → (((xaH (xd0 office_Owner t delay office_Lines ships list omissions proof) (xd1 office_Owner t delay office_Lines ships list omissions proof))) ∧ (((xan office_Owner t delay office_Lines ships list omissions proof).fst.beq 1 = false) → (((xaH (xdY office_Owner t delay office_Lines ships list omissions proof) (xdZ office_Owner t delay office_Lines ships list omissions proof))) ∧ (((!!decide ((bif (xcm office_Owner t delay office_Lines ships list omissions proof).fst.beq 1 then gi (xcm office_Owner t delay office_Lines ships list omissions proof).snd 0 else (-1 : Int)) ≥ (0 : Int))) = false) → (((((↑omissions.length : Int) != (↑proof.length : Int)) = false) → ((xaH (xcj office_Owner t delay office_Lines ships list omissions proof) (xdX office_Owner t delay office_Lines ships list omissions proof)))) ∧ (((((↑omissions.length : Int) != (↑proof.length : Int) || !bif (xdq office_Owner t delay office_Lines ships list omissions proof).fst.beq 1 then false else true) = false) → ((xaH (xci office_Owner t delay office_Lines ships list omissions proof) (xdW office_Owner t delay office_Lines ships list omissions proof)))) ∧ (((((↑omissions.length : Int) != (↑proof.length : Int) || !bif (xdq office_Owner t delay office_Lines ships list omissions proof).fst.beq 1 then false else true) || !bif (xev office_Owner t delay office_Lines ships list omissions proof).fst.beq 1 then false else true) = false) → ((xcI office_Owner t delay office_Lines (gr (xan office_Owner t delay office_Lines ships list omissions proof).snd 3) list) ∧ ((xaH (xbe office_Owner t delay office_Lines ships list omissions proof) (xdV office_Owner t delay office_Lines ships list omissions proof))))))))))))))
end Go.Proofs.YtikhnofbbcmpeaaGreat
set_option maxRecDepth 100000
set_option linter.unusedVariables false
namespace Go.Proofs.YtikhnofbbcmpeaaGreat
open Go Go.Sy
theorem xnS (office_Owner t delay : Int) (office_Lines ships list : List (List Int)) : xat Tryz.prog 3 (xa6 Tryz.prog K31 xde 9 22 [.agg [.int .i64 office_Owner, .sl 0], .sl 1, .sl 2, .int .i64 t, .int .i64 delay] ⟨[⟨0, 3, false, .row 29 [.int .i64, .int .i64, .int .i64, .int .u64] office_Lines⟩, ⟨1, 3, false, .nst 24 [.c (.int .i64), .s 29 [.int .i64, .int .i64, .int .i64, .int .u64]] ships⟩, ⟨2, 3, false, .row 41 [.int .i64, .int .i64, .int .i64] list⟩], 3⟩) = some ⟨some (xcH office_Owner t delay office_Lines ships list), [], 1, [⟨3, 3, true, .row 52 [.int .i64, .int .i64] (xdL office_Owner t delay office_Lines ships list)⟩], .tup [.sl 3, .int .i64 (xdK office_Owner t delay office_Lines ships list)]⟩ := by kernel_rfl
noncomputable def xiZ : List U → Option Eff
 | [.i office_Owner, .i t, .i delay, .r office_Lines, .r ships, .r list] => some ⟨some (xcH office_Owner t delay office_Lines ships list), [], 1, [⟨3, 3, true, .row 52 [.int .i64, .int .i64] (xdL office_Owner t delay office_Lines ships list)⟩], .tup [.sl 3, .int .i64 (xdK office_Owner t delay office_Lines ships list)]⟩
 | _ => Option.none
noncomputable def K32 : Con := ext Tryz.prog K31 22 [.agg [.int .i64 0, .sl 0], .sl 1, .sl 2, .int .i64 0, .int .i64 0] [⟨0, 0, false, .row 29 [.int .i64, .int .i64, .int .i64, .int .u64] []⟩, ⟨1, 0, false, .nst 24 [.c (.int .i64), .s 29 [.int .i64, .int .i64, .int .i64, .int .u64]] []⟩, ⟨2, 0, false, .row 41 [.int .i64, .int .i64, .int .i64] []⟩] xiZ
theorem xAt : xbm Tryz.prog K32 := xav xaD xAu (n := 9) rfl rfl fun us x h => by
 unfold xiZ at h
 split at h
 ·cases h; exact ⟨some (xcH _ _ _ _ _ _), xnS _ _ _ _ _ _, fun h => h⟩
 ·cases h
theorem xk1 (office_Owner t delay : Int) (office_Lines ships list : List (List Int)) : xat Tryz.prog 3 (xa6 Tryz.prog K32 xde 9 24 [.agg [.int .i64 office_Owner, .sl 0], .sl 1, .sl 2, .int .i64 t, .int .i64 delay] ⟨[⟨0, 3, false, .row 29 [.int .i64, .int .i64, .int .i64, .int .u64] office_Lines⟩, ⟨1, 3, false, .nst 24 [.c (.int .i64), .s 29 [.int .i64, .int .i64, .int .i64, .int .u64]] ships⟩, ⟨2, 3, false, .row 41 [.int .i64, .int .i64, .int .i64] list⟩], 3⟩) = some ⟨some (xbr office_Owner t delay office_Lines ships list), [], 2, [⟨3, 3, true, .row 80 [.int .i64, .int .i64, .int .i64] (xaZ office_Owner t delay office_Lines ships list)⟩, ⟨4, 3, true, .row 52 [.int .i64, .int .i64] (xa8 office_Owner t delay office_Lines ships list)⟩], .tup [.sl 3, .sl 4, .int .i64 (xbv office_Owner t delay office_Lines ships list)]⟩ := by kernel_rfl
noncomputable def xgL : List U → Option Eff
 | [.i office_Owner, .i t, .i delay, .r office_Lines, .r ships, .r list] => some ⟨some (xbr office_Owner t delay office_Lines ships list), [], 2, [⟨3, 3, true, .row 80 [.int .i64, .int .i64, .int .i64] (xaZ office_Owner t delay office_Lines ships list)⟩, ⟨4, 3, true, .row 52 [.int .i64, .int .i64] (xa8 office_Owner t delay office_Lines ships list)⟩], .tup [.sl 3, .sl 4, .int .i64 (xbv office_Owner t delay office_Lines ships list)]⟩
 | _ => Option.none
noncomputable def K33 : Con := ext Tryz.prog K32 24 [.agg [.int .i64 0, .sl 0], .sl 1, .sl 2, .int .i64 0, .int .i64 0] [⟨0, 0, false, .row 29 [.int .i64, .int .i64, .int .i64, .int .u64] []⟩, ⟨1, 0, false, .nst 24 [.c (.int .i64), .s 29 [.int .i64, .int .i64, .int .i64, .int .u64]] []⟩, ⟨2, 0, false, .row 41 [.int .i64, .int .i64, .int .i64] []⟩] xgL
theorem xAs : xbm Tryz.prog K33 := xav xaD xAt (n := 9) rfl rfl fun us x h => by
 unfold xgL at h
 split at h
 ·cases h; exact ⟨some (xbr _ _ _ _ _ _), xk1 _ _ _ _ _ _, fun h => h⟩
 ·cases h
theorem xlM (office_Owner t delay : Int) (office_Lines ships list omissions proof : List (List Int)) : xat Tryz.prog 5 (xa6 Tryz.prog K33 xde 9 28 [.agg [.int .i64 office_Owner, .sl 0], .sl 1, .sl 2, .int .i64 t, .int .i64 delay, .sl 3, .sl 4] ⟨[⟨0, 5, false, .row 29 [.int .i64, .int .i64, .int .i64, .int .u64] office_Lines⟩, ⟨1, 5, false, .nst 24 [.c (.int .i64), .s 29 [.int .i64, .int .i64, .int .i64, .int .u64]] ships⟩, ⟨2, 5, false, .row 41 [.int .i64, .int .i64, .int .i64] list⟩, ⟨3, 5, false, .row 80 [.int .i64, .int .i64, .int .i64] omissions⟩, ⟨4, 5, false, .row 52 [.int .i64, .int .i64] proof⟩], 5⟩) = some ⟨some (xbj office_Owner t delay office_Lines ships list omissions proof), [], 0, [], .tup [.bool (xbI office_Owner t delay office_Lines ships list omissions proof), .int .i64 (xb8 office_Owner t delay office_Lines ships list omissions proof)]⟩ := by kernel_rfl
noncomputable def xg4 : List U → Option Eff
 | [.i office_Owner, .i t, .i delay, .r office_Lines, .r ships, .r list, .r omissions, .r proof] => some ⟨some (xbj office_Owner t delay office_Lines ships list omissions proof), [], 0, [], .tup [.bool (xbI office_Owner t delay office_Lines ships list omissions proof), .int .i64 (xb8 office_Owner t delay office_Lines ships list omissions proof)]⟩
 | _ => Option.none
noncomputable def K34 : Con := ext Tryz.prog K33 28 [.agg [.int .i64 0, .sl 0], .sl 1, .sl 2, .int .i64 0, .int .i64 0, .sl 3, .sl 4] [⟨0, 0, false, .row 29 [.int .i64, .int .i64, .int .i64, .int .u64] []⟩, ⟨1, 0, false, .nst 24 [.c (.int .i64), .s 29 [.int .i64, .int .i64, .int .i64, .int .u64]] []⟩, ⟨2, 0, false, .row 41 [.int .i64, .int .i64, .int .i64] []⟩, ⟨3, 0, false, .row 80 [.int .i64, .int .i64, .int .i64] []⟩, ⟨4, 0, false, .row 52 [.int .i64, .int .i64] []⟩] xg4
theorem xAr : xbm Tryz.prog K34 := xav xaD xAs (n := 9) rfl rfl fun us x h => by
 unfold xg4 at h
 split at h
 ·cases h; exact ⟨some (xbj _ _ _ _ _ _ _ _), xlM _ _ _ _ _ _ _ _, fun h => h⟩
 ·cases h
end Go.Proofs.YtikhnofbbcmpeaaGreat
set_option maxRecDepth 100000
set_option linter.unusedVariables false
namespace Go.Proofs.YtikhnofbbcmpeaaGreat
open Go Go.Sy
noncomputable def xe4 (a b : List (List Int)) : List U :=
 [.b (false), .i ((0 : Int))]
noncomputable def xc5 (a b : List (List Int)) (y0 : List U) : Option (Nat × List U) :=
 (bif decide (gi y0 1 < (↑a.length : Int)) then xae (inR (gi y0 1) a) (xae (inR (gi y0 1) a) (xae (inR (gi y0 1) b) (xae (inR (gi y0 1) b) ((bif (a.getD (gi y0 1).toNat []).getD 0 (0 : Int) != (b.getD (gi y0 1).toNat []).getD 0 (0 : Int) then some (1, []) else some (0, [.b (gb y0 0), .i (IntKind.i64.wrap (gi y0 1 + (1 : Int)))])))))) else some (3, [.b (gb y0 0), .i (gi y0 1)]))
noncomputable def xqW (a b : List (List Int)) : Nat × List U := xaw (xc5 a b) (xe4 a b)
noncomputable def xdu (a b : List (List Int)) : Bool :=
 bif (↑a.length : Int) != (↑b.length : Int) then false else bif (xqW a b).fst.beq 1 then false else true
def xdc (a b : List (List Int)) : Prop :=
 ((((↑a.length : Int) != (↑b.length : Int)) = false) → ((xaH (xc5 a b) (xe4 a b))))
noncomputable def xdO (a b : List (List Int)) : List U :=
 [.b (false), .i ((0 : Int))]
noncomputable def xcc (a b : List (List Int)) (y0 : List U) : Option (Nat × List U) :=
 (bif decide (gi y0 1 < (↑a.length : Int)) then xae (inR (gi y0 1) a) (xae (inR (gi y0 1) a) (xae (inR (gi y0 1) b) (xae (inR (gi y0 1) b) ((bif !((a.getD (gi y0 1).toNat []).getD 0 (0 : Int) == (b.getD (gi y0 1).toNat []).getD 0 (0 : Int) &&
  ((a.getD (gi y0 1).toNat []).getD 1 (0 : Int) == (b.getD (gi y0 1).toNat []).getD 1 (0 : Int) && true)) then some (1, []) else some (0, [.b (gb y0 0), .i (IntKind.i64.wrap (gi y0 1 + (1 : Int)))])))))) else some (3, [.b (gb y0 0), .i (gi y0 1)]))
noncomputable def xmm (a b : List (List Int)) : Nat × List U := xaw (xcc a b) (xdO a b)
noncomputable def xbF (a b : List (List Int)) : Bool :=
 bif (↑a.length : Int) != (↑b.length : Int) then false else bif (xmm a b).fst.beq 1 then false else true
def xbU (a b : List (List Int)) : Prop :=
 ((((↑a.length : Int) != (↑b.length : Int)) = false) → ((xaH (xcc a b) (xdO a b))))
noncomputable def xcY (a b : List (List Int)) : List U :=
 [.b (false), .i ((0 : Int))]
noncomputable def xbp (a b : List (List Int)) (y0 : List U) : Option (Nat × List U) :=
 (bif decide (gi y0 1 < (↑a.length : Int)) then xae (inR (gi y0 1) a) (xae (inR (gi y0 1) a) (xae (inR (gi y0 1) b) (xae (inR (gi y0 1) b) ((bif !((a.getD (gi y0 1).toNat []).getD 0 (0 : Int) == (b.getD (gi y0 1).toNat []).getD 0 (0 : Int) &&
  ((a.getD (gi y0 1).toNat []).getD 1 (0 : Int) == (b.getD (gi y0 1).toNat []).getD 1 (0 : Int) &&
   ((a.getD (gi y0 1).toNat []).getD 2 (0 : Int) == (b.getD (gi y0 1).toNat []).getD 2 (0 : Int) && true))) then some (1, []) else some (0, [.b (gb y0 0), .i (IntKind.i64.wrap (gi y0 1 + (1 : Int)))])))))) else some (3, [.b (gb y0 0), .i (gi y0 1)]))
noncomputable def xjc (a b : List (List Int)) : Nat × List U := xaw (xbp a b) (xcY a b)
noncomputable def xbL (a b : List (List Int)) : Bool :=
 bif (↑a.length : Int) != (↑b.length : Int) then false else bif (xjc a b).fst.beq 1 then false else true
def xbt (a b : List (List Int)) : Prop :=
 ((((↑a.length : Int) != (↑b.length : Int)) = false) → ((xaH (xbp a b) (xcY a b))))
noncomputable def xnm (owner : Int) (lines : List (List Int)) (y0 : List U) : Int :=
 xfh (gi y0 1) ((lines.getD (gi y0 0).toNat []).getD 0 (0 : Int)) ((lines.getD (gi y0 0).toNat []).getD 1 (0 : Int))
 ((lines.getD (gi y0 0).toNat []).getD 2 (0 : Int)) (gr y0 2)
noncomputable def xnl (owner : Int) (lines : List (List Int)) (y0 : List U) : Int :=
 xfi (gi y0 1) ((lines.getD (gi y0 0).toNat []).getD 0 (0 : Int)) ((lines.getD (gi y0 0).toNat []).getD 1 (0 : Int))
 ((lines.getD (gi y0 0).toNat []).getD 2 (0 : Int)) (gr y0 2)
noncomputable def xnk (owner : Int) (lines : List (List Int)) (y0 : List U) : List (List Int) :=
 xfj (gi y0 1) ((lines.getD (gi y0 0).toNat []).getD 0 (0 : Int)) ((lines.getD (gi y0 0).toNat []).getD 1 (0 : Int))
 ((lines.getD (gi y0 0).toNat []).getD 2 (0 : Int)) (gr y0 2)
noncomputable def xhN (owner : Int) (lines : List (List Int)) : List U :=
 [.i ((0 : Int)), .i (owner), .r ([])]
noncomputable def xcV (owner : Int) (lines : List (List Int)) (y0 : List U) : Option (Nat × List U) :=
 (bif decide (gi y0 0 < (↑lines.length : Int)) then xae (inR (gi y0 0) lines) (xae (inR (gi y0 0) lines) (xae (inR (gi y0 0) lines) (xae (inR (gi y0 0) lines) (xae (inR (gi y0 0) lines) (xae (inR (gi y0 0) lines) (xae (inR (gi y0 0) lines) (xae (inR (gi y0 0) lines) (xae (inR (gi y0 0) lines) (xae (xek (gi y0 1) ((lines.getD (gi y0 0).toNat []).getD 0 (0 : Int)) ((lines.getD (gi y0 0).toNat []).getD 1 (0 : Int))
 ((lines.getD (gi y0 0).toNat []).getD 2 (0 : Int)) (gr y0 2)) ((bif (xnm owner lines y0) != (0 : Int) then some (1, [.i (gi y0 1), .r (gr y0 2)]) else some (0, [.i (IntKind.i64.wrap (gi y0 0 + (1 : Int))), .i ((xnl owner lines y0)), .r ((xnk owner lines y0))])))))))))))) else some (3, [.i (gi y0 0), .i (gi y0 1), .r (gr y0 2)]))
noncomputable def xfZ (owner : Int) (lines : List (List Int)) : Nat × List U := xaw (xcV owner lines) (xhN owner lines)
noncomputable def xac (owner : Int) (lines : List (List Int)) : List (List Int) :=
 bif (xfZ owner lines).fst.beq 1 then [] else gr (xfZ owner lines).snd 2
noncomputable def xab (owner : Int) (lines : List (List Int)) : Int :=
 bif (xfZ owner lines).fst.beq 1 then (0 : Int) else gi (xfZ owner lines).snd 1
def xbG (owner : Int) (lines : List (List Int)) : Prop :=
 ((xaH (xcV owner lines) (xhN owner lines)))
noncomputable def xag  : List (List Int) :=
 [[(5 : Int), (4 : Int), (0 : Int)], [(20 : Int), (5 : Int), (0 : Int)], [(40 : Int), (2 : Int), (9 : Int)]]
noncomputable def xax  : List Int :=
 [xab (1 : Int) [[(12 : Int), (3 : Int), (7 : Int)]], encL (xac (1 : Int) [[(12 : Int), (3 : Int), (7 : Int)]])]
noncomputable def xaC  : List Int :=
 [(xax), [xab (2 : Int) [], encL (xac (2 : Int) [])], [xab (3 : Int) ((xag)), encL (xac (3 : Int) ((xag)))]].getD
 (Int.toNat (0 : Int)) []
noncomputable def xaS  : List (List Int) :=
 [[(3 : Int), (7 : Int), (10 : Int)], [(2 : Int), (9 : Int), (30 : Int)], [(3 : Int), (9 : Int), (30 : Int)]]
noncomputable def xbg  : List Int :=
 [(xax), [xab (2 : Int) [], encL (xac (2 : Int) [])], [xab (3 : Int) ((xag)), encL (xac (3 : Int) ((xag)))]].getD
 (Int.toNat (2 : Int)) []
noncomputable def xcP  : List (List Int) :=
 xaZ (xab (0 : Int) [[(10 : Int), (1 : Int), (7 : Int)]]) (50 : Int) (5 : Int) (xac (0 : Int) [[(10 : Int), (1 : Int), (7 : Int)]])
 [(xax), [xab (2 : Int) [], encL (xac (2 : Int) [])], [xab (3 : Int) ((xag)), encL (xac (3 : Int) ((xag)))]]
 ([(1 : Int), (7 : Int), (10 : Int)] :: [(2 : Int), (7 : Int), (10 : Int)] :: (xaS))
noncomputable def xcp  : List (List Int) :=
 xa8 (xab (0 : Int) [[(10 : Int), (1 : Int), (7 : Int)]]) (50 : Int) (5 : Int) (xac (0 : Int) [[(10 : Int), (1 : Int), (7 : Int)]])
 [(xax), [xab (2 : Int) [], encL (xac (2 : Int) [])], [xab (3 : Int) ((xag)), encL (xac (3 : Int) ((xag)))]]
 ([(1 : Int), (7 : Int), (10 : Int)] :: [(2 : Int), (7 : Int), (10 : Int)] :: (xaS))
noncomputable def xgi  : Int :=
 xcA (xab (0 : Int) [[(10 : Int), (1 : Int), (7 : Int)]]) (((xaC)).getD 0 (0 : Int)) (10 : Int) (xac (0 : Int) [[(10 : Int), (1 : Int), (7 : Int)]])
 (decL (((xaC)).getD 1 (0 : Int))) ([(1 : Int), (7 : Int), (10 : Int)] :: [(2 : Int), (7 : Int), (10 : Int)] :: (xaS))
noncomputable def xgh  : Int :=
 xcA (xab (0 : Int) [[(10 : Int), (1 : Int), (7 : Int)]]) (((xbg)).getD 0 (0 : Int)) (10 : Int) (xac (0 : Int) [[(10 : Int), (1 : Int), (7 : Int)]])
 (decL (((xbg)).getD 1 (0 : Int))) ([(1 : Int), (7 : Int), (10 : Int)] :: [(2 : Int), (7 : Int), (10 : Int)] :: (xaS))
noncomputable def xgg  : Int :=
 xdK (xab (0 : Int) [[(10 : Int), (1 : Int), (7 : Int)]]) (50 : Int) (5 : Int) (xac (0 : Int) [[(10 : Int), (1 : Int), (7 : Int)]])
 [(xax), [xab (2 : Int) [], encL (xac (2 : Int) [])], [xab (3 : Int) ((xag)), encL (xac (3 : Int) ((xag)))]]
 ([(1 : Int), (7 : Int), (10 : Int)] :: [(2 : Int), (7 : Int), (10 : Int)] :: (xaS))
noncomputable def xfR  : Int :=
 xbv (xab (0 : Int) [[(10 : Int), (1 : Int), (7 : Int)]]) (50 : Int) (5 : Int) (xac (0 : Int) [[(10 : Int), (1 : Int), (7 : Int)]])
 [(xax), [xab (2 : Int) [], encL (xac (2 : Int) [])], [xab (3 : Int) ((xag)), encL (xac (3 : Int) ((xag)))]]
 ([(1 : Int), (7 : Int), (10 : Int)] :: [(2 : Int), (7 : Int), (10 : Int)] :: (xaS))
noncomputable def xfQ  : Int :=
 xb8 (xab (0 : Int) [[(10 : Int), (1 : Int), (7 : Int)]]) (50 : Int) (5 : Int) (xac (0 : Int) [[(10 : Int), (1 : Int), (7 : Int)]])
 [(xax), [xab (2 : Int) [], encL (xac (2 : Int) [])], [xab (3 : Int) ((xag)), encL (xac (3 : Int) ((xag)))]]
 ([(1 : Int), (7 : Int), (10 : Int)] :: [(2 : Int), (7 : Int), (10 : Int)] :: (xaS)) ((xcP)) ((xcp))
noncomputable def xeG  : List (List Int) :=
 xcB (xab (0 : Int) [[(10 : Int), (1 : Int), (7 : Int)]]) (((xaC)).getD 0 (0 : Int)) (10 : Int) (xac (0 : Int) [[(10 : Int), (1 : Int), (7 : Int)]])
 (decL (((xaC)).getD 1 (0 : Int))) ([(1 : Int), (7 : Int), (10 : Int)] :: [(2 : Int), (7 : Int), (10 : Int)] :: (xaS))
noncomputable def xfP  : List (List Int) :=
 xcB (xab (0 : Int) [[(10 : Int), (1 : Int), (7 : Int)]]) (((xbg)).getD 0 (0 : Int)) (10 : Int) (xac (0 : Int) [[(10 : Int), (1 : Int), (7 : Int)]])
 (decL (((xbg)).getD 1 (0 : Int))) ([(1 : Int), (7 : Int), (10 : Int)] :: [(2 : Int), (7 : Int), (10 : Int)] :: (xaS))
noncomputable def xeF  : List (List Int) :=
 xdL (xab (0 : Int) [[(10 : Int), (1 : Int), (7 : Int)]]) (50 : Int) (5 : Int) (xac (0 : Int) [[(10 : Int), (1 : Int), (7 : Int)]])
 [(xax), [xab (2 : Int) [], encL (xac (2 : Int) [])], [xab (3 : Int) ((xag)), encL (xac (3 : Int) ((xag)))]]
 ([(1 : Int), (7 : Int), (10 : Int)] :: [(2 : Int), (7 : Int), (10 : Int)] :: (xaS))
noncomputable def xhm  : List (List Int) :=
 [[(2 : Int), (7 : Int)], [(2 : Int), (9 : Int)], [(3 : Int), (7 : Int)], [(3 : Int), (9 : Int)]]
noncomputable def xhl  : List (List Int) :=
 [[(1 : Int), (0 : Int), (9 : Int)], [(2 : Int), (2 : Int), (0 : Int)], [(2 : Int), (3 : Int), (0 : Int)]]
noncomputable def xee  : Bool :=
 bif
  ((xgi) == (0 : Int) && (xgh) == (0 : Int) && (xgg) == (0 : Int) && (xfR) == (0 : Int) && (xfQ) == (0 : Int) &&
     xcZ (((xaC)).getD 0 (0 : Int)) (12 : Int) (decL (((xaC)).getD 1 (0 : Int))) == (0 : Int) &&
    xbI (xab (0 : Int) [[(10 : Int), (1 : Int), (7 : Int)]]) (50 : Int) (5 : Int) (xac (0 : Int) [[(10 : Int), (1 : Int), (7 : Int)]])
     [(xax), [xab (2 : Int) [], encL (xac (2 : Int) [])], [xab (3 : Int) ((xag)), encL (xac (3 : Int) ((xag)))]]
     ([(1 : Int), (7 : Int), (10 : Int)] :: [(2 : Int), (7 : Int), (10 : Int)] :: (xaS)) ((xcP)) ((xcp))) ==
   true then
 bif (xdu ((xeG)) [[(7 : Int)]] && (↑((xfP)).length : Int) == (0 : Int)) == true then
  bif xdu (xcy (((xaC)).getD 0 (0 : Int)) (12 : Int) (decL (((xaC)).getD 1 (0 : Int)))) [[(7 : Int)]] == true then
   bif xbF ((xeF)) ((xhm)) == true then
    bif xbL ((xcP)) ((xhl)) == true then
     bif xbF ((xcp)) [[(2 : Int), (7 : Int)], [(3 : Int), (7 : Int)], [(3 : Int), (9 : Int)]] == true then
      xad (((xbg)).getD 0 (0 : Int)) (decL (((xbg)).getD 1 (0 : Int)))
     else false
    else false
   else false
  else false
 else false
else false
def xdI  : Prop :=
 (((xbG (1 : Int) [[(12 : Int), (3 : Int), (7 : Int)]]) ∧ ((xbG (2 : Int) []) ∧ ((xbG (3 : Int) ((xag))) ∧ (xbG (0 : Int) [[(10 : Int), (1 : Int), (7 : Int)]])))) ∧ ((inR (0 : Int) [(xax), [xab (2 : Int) [], encL (xac (2 : Int) [])], [xab (3 : Int) ((xag)), encL (xac (3 : Int) ((xag)))]]) ∧ ((inR (0 : Int) [(xax), [xab (2 : Int) [], encL (xac (2 : Int) [])], [xab (3 : Int) ((xag)), encL (xac (3 : Int) ((xag)))]]) ∧ ((xbw (xab (0 : Int) [[(10 : Int), (1 : Int), (7 : Int)]]) (((xaC)).getD 0 (0 : Int)) (10 : Int) (xac (0 : Int) [[(10 : Int), (1 : Int), (7 : Int)]])
 (decL (((xaC)).getD 1 (0 : Int))) ([(1 : Int), (7 : Int), (10 : Int)] :: [(2 : Int), (7 : Int), (10 : Int)] :: (xaS))) ∧ ((inR (2 : Int) [(xax), [xab (2 : Int) [], encL (xac (2 : Int) [])], [xab (3 : Int) ((xag)), encL (xac (3 : Int) ((xag)))]]) ∧ ((inR (2 : Int) [(xax), [xab (2 : Int) [], encL (xac (2 : Int) [])], [xab (3 : Int) ((xag)), encL (xac (3 : Int) ((xag)))]]) ∧ ((xbw (xab (0 : Int) [[(10 : Int), (1 : Int), (7 : Int)]]) (((xbg)).getD 0 (0 : Int)) (10 : Int) (xac (0 : Int) [[(10 : Int), (1 : Int), (7 : Int)]])
 (decL (((xbg)).getD 1 (0 : Int))) ([(1 : Int), (7 : Int), (10 : Int)] :: [(2 : Int), (7 : Int), (10 : Int)] :: (xaS))) ∧ ((xcH (xab (0 : Int) [[(10 : Int), (1 : Int), (7 : Int)]]) (50 : Int) (5 : Int) (xac (0 : Int) [[(10 : Int), (1 : Int), (7 : Int)]])
 [(xax), [xab (2 : Int) [], encL (xac (2 : Int) [])], [xab (3 : Int) ((xag)), encL (xac (3 : Int) ((xag)))]]
 ([(1 : Int), (7 : Int), (10 : Int)] :: [(2 : Int), (7 : Int), (10 : Int)] :: (xaS))) ∧ ((xbr (xab (0 : Int) [[(10 : Int), (1 : Int), (7 : Int)]]) (50 : Int) (5 : Int) (xac (0 : Int) [[(10 : Int), (1 : Int), (7 : Int)]])
 [(xax), [xab (2 : Int) [], encL (xac (2 : Int) [])], [xab (3 : Int) ((xag)), encL (xac (3 : Int) ((xag)))]]
 ([(1 : Int), (7 : Int), (10 : Int)] :: [(2 : Int), (7 : Int), (10 : Int)] :: (xaS))) ∧ ((xbj (xab (0 : Int) [[(10 : Int), (1 : Int), (7 : Int)]]) (50 : Int) (5 : Int) (xac (0 : Int) [[(10 : Int), (1 : Int), (7 : Int)]])
 [(xax), [xab (2 : Int) [], encL (xac (2 : Int) [])], [xab (3 : Int) ((xag)), encL (xac (3 : Int) ((xag)))]]
 ([(1 : Int), (7 : Int), (10 : Int)] :: [(2 : Int), (7 : Int), (10 : Int)] :: (xaS)) ((xcP)) ((xcp))) ∧ ((inR (0 : Int) [(xax), [xab (2 : Int) [], encL (xac (2 : Int) [])], [xab (3 : Int) ((xag)), encL (xac (3 : Int) ((xag)))]]) ∧ ((inR (0 : Int) [(xax), [xab (2 : Int) [], encL (xac (2 : Int) [])], [xab (3 : Int) ((xag)), encL (xac (3 : Int) ((xag)))]]) ∧ ((xcn (((xaC)).getD 0 (0 : Int)) (12 : Int) (decL (((xaC)).getD 1 (0 : Int)))) ∧ (((((xgi) == (0 : Int) && (xgh) == (0 : Int) && (xgg) == (0 : Int) && (xfR) == (0 : Int) && (xfQ) == (0 : Int) &&
    xcZ (((xaC)).getD 0 (0 : Int)) (12 : Int) (decL (((xaC)).getD 1 (0 : Int))) == (0 : Int) &&
   xbI (xab (0 : Int) [[(10 : Int), (1 : Int), (7 : Int)]]) (50 : Int) (5 : Int) (xac (0 : Int) [[(10 : Int), (1 : Int), (7 : Int)]])
    [(xax), [xab (2 : Int) [], encL (xac (2 : Int) [])], [xab (3 : Int) ((xag)), encL (xac (3 : Int) ((xag)))]]
    ([(1 : Int), (7 : Int), (10 : Int)] :: [(2 : Int), (7 : Int), (10 : Int)] :: (xaS)) ((xcP)) ((xcp))) ==
  true) =
 true) → ((xdc ((xeG)) [[(7 : Int)]]) ∧ ((((xdu ((xeG)) [[(7 : Int)]] && (↑((xfP)).length : Int) == (0 : Int)) == true) = true) → ((xdc (xcy (((xaC)).getD 0 (0 : Int)) (12 : Int) (decL (((xaC)).getD 1 (0 : Int)))) [[(7 : Int)]]) ∧ (((xdu (xcy (((xaC)).getD 0 (0 : Int)) (12 : Int) (decL (((xaC)).getD 1 (0 : Int)))) [[(7 : Int)]] == true) = true) → ((xbU ((xeF)) ((xhm))) ∧ (((xbF ((xeF)) ((xhm)) == true) = true) → ((xbt ((xcP)) ((xhl))) ∧ (((xbL ((xcP)) ((xhl)) == true) = true) → ((xbU ((xcp)) [[(2 : Int), (7 : Int)], [(3 : Int), (7 : Int)], [(3 : Int), (9 : Int)]]) ∧ (((xbF ((xcp)) [[(2 : Int), (7 : Int)], [(3 : Int), (7 : Int)], [(3 : Int), (9 : Int)]] = true) → (inR (2 : Int) [(xax), [xab (2 : Int) [], encL (xac (2 : Int) [])], [xab (3 : Int) ((xag)), encL (xac (3 : Int) ((xag)))]])) ∧ (((xbF ((xcp)) [[(2 : Int), (7 : Int)], [(3 : Int), (7 : Int)], [(3 : Int), (9 : Int)]] == true) = true) → ((inR (2 : Int) [(xax), [xab (2 : Int) [], encL (xac (2 : Int) [])], [xab (3 : Int) ((xag)), encL (xac (3 : Int) ((xag)))]]) ∧ (xaz (((xbg)).getD 0 (0 : Int)) (decL (((xbg)).getD 1 (0 : Int))))))))))))))))))))))))))))))
end Go.Proofs.YtikhnofbbcmpeaaGreat
set_option maxRecDepth 100000
set_option linter.unusedVariables false
namespace Go.Proofs.YtikhnofbbcmpeaaGreat
open Go Go.Sy
theorem xpH (a b : List (List Int)) : xat Tryz.prog 2 (xa6 Tryz.prog K34 xde 9 37 [.sl 0, .sl 1] ⟨[⟨0, 2, false, .row 3 [.int .i64] a⟩, ⟨1, 2, false, .row 3 [.int .i64] b⟩], 2⟩) = some ⟨some (xdc a b), [], 0, [], .bool (xdu a b)⟩ := by kernel_rfl
noncomputable def xkk : List U → Option Eff
 | [.r a, .r b] => some ⟨some (xdc a b), [], 0, [], .bool (xdu a b)⟩
 | _ => Option.none
noncomputable def K35 : Con := ext Tryz.prog K34 37 [.sl 0, .sl 1] [⟨0, 0, false, .row 3 [.int .i64] []⟩, ⟨1, 0, false, .row 3 [.int .i64] []⟩] xkk
theorem xAq : xbm Tryz.prog K35 := xav xaD xAr (n := 9) rfl rfl fun us x h => by
 unfold xkk at h
 split at h
 ·cases h; exact ⟨some (xdc _ _), xpH _ _, fun h => h⟩
 ·cases h
theorem xlo (a b : List (List Int)) : xat Tryz.prog 2 (xa6 Tryz.prog K35 xde 9 30 [.sl 0, .sl 1] ⟨[⟨0, 2, false, .row 52 [.int .i64, .int .i64] a⟩, ⟨1, 2, false, .row 52 [.int .i64, .int .i64] b⟩], 2⟩) = some ⟨some (xbU a b), [], 0, [], .bool (xbF a b)⟩ := by kernel_rfl
noncomputable def xg0 : List U → Option Eff
 | [.r a, .r b] => some ⟨some (xbU a b), [], 0, [], .bool (xbF a b)⟩
 | _ => Option.none
noncomputable def K36 : Con := ext Tryz.prog K35 30 [.sl 0, .sl 1] [⟨0, 0, false, .row 52 [.int .i64, .int .i64] []⟩, ⟨1, 0, false, .row 52 [.int .i64, .int .i64] []⟩] xg0
theorem xAp : xbm Tryz.prog K36 := xav xaD xAq (n := 9) rfl rfl fun us x h => by
 unfold xg0 at h
 split at h
 ·cases h; exact ⟨some (xbU _ _), xlo _ _, fun h => h⟩
 ·cases h
theorem xil (a b : List (List Int)) : xat Tryz.prog 2 (xa6 Tryz.prog K36 xde 9 41 [.sl 0, .sl 1] ⟨[⟨0, 2, false, .row 80 [.int .i64, .int .i64, .int .i64] a⟩, ⟨1, 2, false, .row 80 [.int .i64, .int .i64, .int .i64] b⟩], 2⟩) = some ⟨some (xbt a b), [], 0, [], .bool (xbL a b)⟩ := by kernel_rfl
noncomputable def xe2 : List U → Option Eff
 | [.r a, .r b] => some ⟨some (xbt a b), [], 0, [], .bool (xbL a b)⟩
 | _ => Option.none
noncomputable def K37 : Con := ext Tryz.prog K36 41 [.sl 0, .sl 1] [⟨0, 0, false, .row 80 [.int .i64, .int .i64, .int .i64] []⟩, ⟨1, 0, false, .row 80 [.int .i64, .int .i64, .int .i64] []⟩] xe2
theorem xAo : xbm Tryz.prog K37 := xav xaD xAp (n := 9) rfl rfl fun us x h => by
 unfold xe2 at h
 split at h
 ·cases h; exact ⟨some (xbt _ _), xil _ _, fun h => h⟩
 ·cases h
theorem xrb (owner : Int) (lines : List (List Int)) : xat Tryz.prog 1 (xa6 Tryz.prog K37 xde 9 86 [.int .i64 owner, .sl 0] ⟨[⟨0, 1, false, .row 127 [.int .i64, .int .i64, .int .i64] lines⟩], 1⟩) = some ⟨some (xbG owner lines), [], 1, [⟨1, 1, true, .row 29 [.int .i64, .int .i64, .int .i64, .int .u64] (xac owner lines)⟩], .agg [.int .i64 (xab owner lines), .sl 1]⟩ := by kernel_rfl
noncomputable def xlD : List U → Option Eff
 | [.i owner, .r lines] => some ⟨some (xbG owner lines), [], 1, [⟨1, 1, true, .row 29 [.int .i64, .int .i64, .int .i64, .int .u64] (xac owner lines)⟩], .agg [.int .i64 (xab owner lines), .sl 1]⟩
 | _ => Option.none
noncomputable def K38 : Con := ext Tryz.prog K37 86 [.int .i64 0, .sl 0] [⟨0, 0, false, .row 127 [.int .i64, .int .i64, .int .i64] []⟩] xlD
theorem xAn : xbm Tryz.prog K38 := xav xaD xAo (n := 9) rfl rfl fun us x h => by
 unfold xlD at h
 split at h
 ·cases h; exact ⟨some (xbG _ _), xrb _ _, fun h => h⟩
 ·cases h
theorem xpK  : xat Tryz.prog 0 (xa6 Tryz.prog K38 xde 9 12 [] ⟨[], 0⟩) = some ⟨some (xdI), [], 0, [], .bool (xee)⟩ := by kernel_rfl
noncomputable def xkm : List U → Option Eff
 | [] => some ⟨some (xdI), [], 0, [], .bool (xee)⟩
 | _ => Option.none
noncomputable def K39 : Con := ext Tryz.prog K38 12 [] [] xkm
theorem xAm : xbm Tryz.prog K39 := xav xaD xAn (n := 9) rfl rfl fun us x h => by
 unfold xkm at h
 split at h
 ·cases h; exact ⟨some (xdI), xpK, fun h => h⟩
 ·cases h
end Go.Proofs.YtikhnofbbcmpeaaGreat
set_option maxRecDepth 100000
set_option linter.unusedVariables false
namespace Go.Proofs.YtikhnofbbcmpeaaGreat
open Go Go.Sy
noncomputable def xhG (l_Owner time : Int) (l_Lines : List (List Int)) : List U :=
 [.b (false), .i ((0 : Int))]
noncomputable def xhF (l_Owner time : Int) (l_Lines : List (List Int)) (y0 : List U) : Option (Nat × List U) :=
 (bif decide (gi y0 1 < (↑l_Lines.length : Int)) then xae (inR (gi y0 1) l_Lines) (xae (inR (gi y0 1) l_Lines) (xae (inR (gi y0 1) l_Lines) (xae ((decide ((l_Lines.getD (gi y0 1).toNat []).getD 0 (0 : Int) ≤ time) = true) → (inR (gi y0 1) l_Lines)) (xae ((decide ((l_Lines.getD (gi y0 1).toNat []).getD 0 (0 : Int) ≤ time) = true) → (inR (gi y0 1) l_Lines)) (xae ((decide ((l_Lines.getD (gi y0 1).toNat []).getD 0 (0 : Int) ≤ time) = true) → (inR (gi y0 1) l_Lines)) (xae ((decide ((l_Lines.getD (gi y0 1).toNat []).getD 0 (0 : Int) ≤ time) = true) → ((((l_Lines.getD (gi y0 1).toNat []).getD 1 (0 : Int) == (4 : Int)) = false) → (inR (gi y0 1) l_Lines))) (xae ((decide ((l_Lines.getD (gi y0 1).toNat []).getD 0 (0 : Int) ≤ time) = true) → ((((l_Lines.getD (gi y0 1).toNat []).getD 1 (0 : Int) == (4 : Int)) = false) → (inR (gi y0 1) l_Lines))) (xae ((decide ((l_Lines.getD (gi y0 1).toNat []).getD 0 (0 : Int) ≤ time) = true) → ((((l_Lines.getD (gi y0 1).toNat []).getD 1 (0 : Int) == (4 : Int)) = false) → (inR (gi y0 1) l_Lines))) ((bif decide ((l_Lines.getD (gi y0 1).toNat []).getD 0 (0 : Int) ≤ time) &&
 ((l_Lines.getD (gi y0 1).toNat []).getD 1 (0 : Int) == (4 : Int) || (l_Lines.getD (gi y0 1).toNat []).getD 1 (0 : Int) == (5 : Int)) then xae (inR (gi y0 1) l_Lines) (xae (inR (gi y0 1) l_Lines) (xae (inR (gi y0 1) l_Lines) (some (0, [.b ((l_Lines.getD (gi y0 1).toNat []).getD 1 (0 : Int) == (4 : Int)), .i (IntKind.i64.wrap (gi y0 1 + (1 : Int)))])))) else some (0, [.b (gb y0 0), .i (IntKind.i64.wrap (gi y0 1 + (1 : Int)))]))))))))))) else some (3, [.b (gb y0 0), .i (gi y0 1)]))
noncomputable def xrV (l_Owner time : Int) (l_Lines : List (List Int)) : Nat × List U := xaw (xhF l_Owner time l_Lines) (xhG l_Owner time l_Lines)
noncomputable def xoy (l_Owner time : Int) (l_Lines : List (List Int)) : Bool :=
 gb (xrV l_Owner time l_Lines).snd 0
def xim (l_Owner time : Int) (l_Lines : List (List Int)) : Prop :=
 ((xaH (xhF l_Owner time l_Lines) (xhG l_Owner time l_Lines)))
noncomputable def xhI (l_Owner kind item from_ until_ : Int) (l_Lines : List (List Int)) : List U :=
 [.b (false), .i ((0 : Int))]
noncomputable def xhH (l_Owner kind item from_ until_ : Int) (l_Lines : List (List Int)) (y0 : List U) : Option (Nat × List U) :=
 (bif decide (gi y0 1 < (↑l_Lines.length : Int)) then xae (inR (gi y0 1) l_Lines) (xae (inR (gi y0 1) l_Lines) ((bif (l_Lines.getD (gi y0 1).toNat []).getD 1 (0 : Int) == kind && (l_Lines.getD (gi y0 1).toNat []).getD 2 (0 : Int) == item &&
  decide (from_ ≤ (l_Lines.getD (gi y0 1).toNat []).getD 0 (0 : Int)) &&
 decide ((l_Lines.getD (gi y0 1).toNat []).getD 0 (0 : Int) ≤ until_) then some (1, []) else some (0, [.b (gb y0 0), .i (IntKind.i64.wrap (gi y0 1 + (1 : Int)))])))) else some (3, [.b (gb y0 0), .i (gi y0 1)]))
noncomputable def xrW (l_Owner kind item from_ until_ : Int) (l_Lines : List (List Int)) : Nat × List U := xaw (xhH l_Owner kind item from_ until_ l_Lines) (xhI l_Owner kind item from_ until_ l_Lines)
noncomputable def xoz (l_Owner kind item from_ until_ : Int) (l_Lines : List (List Int)) : Bool :=
 bif (xrW l_Owner kind item from_ until_ l_Lines).fst.beq 1 then true else false
def xin (l_Owner kind item from_ until_ : Int) (l_Lines : List (List Int)) : Prop :=
 ((xaH (xhH l_Owner kind item from_ until_ l_Lines) (xhI l_Owner kind item from_ until_ l_Lines)))
noncomputable def xhP (n : Int) (list : List (List Int)) : List U :=
 [.b (false), .i ((0 : Int))]
noncomputable def xhO (n : Int) (list : List (List Int)) (y0 : List U) : Option (Nat × List U) :=
 (bif decide (gi y0 1 < (↑list.length : Int)) then xae (inR (gi y0 1) list) (xae (inR (gi y0 1) list) ((bif (list.getD (gi y0 1).toNat []).getD 0 (0 : Int) == n then some (1, []) else some (0, [.b (gb y0 0), .i (IntKind.i64.wrap (gi y0 1 + (1 : Int)))])))) else some (3, [.b (gb y0 0), .i (gi y0 1)]))
noncomputable def xsn (n : Int) (list : List (List Int)) : Nat × List U := xaw (xhO n list) (xhP n list)
noncomputable def xoT (n : Int) (list : List (List Int)) : Bool :=
 bif (xsn n list).fst.beq 1 then true else false
def xis (n : Int) (list : List (List Int)) : Prop :=
 ((xaH (xhO n list) (xhP n list)))
end Go.Proofs.YtikhnofbbcmpeaaGreat
set_option maxRecDepth 100000
set_option linter.unusedVariables false
namespace Go.Proofs.YtikhnofbbcmpeaaGreat
open Go Go.Sy
theorem xqT (l_Owner time : Int) (l_Lines : List (List Int)) : xat Tryz.prog 1 (xa6 Tryz.prog K39 xde 9 19 [.agg [.int .i64 l_Owner, .sl 0], .int .i64 time] ⟨[⟨0, 1, false, .row 29 [.int .i64, .int .i64, .int .i64, .int .u64] l_Lines⟩], 1⟩) = some ⟨some (xim l_Owner time l_Lines), [], 0, [], .bool (xoy l_Owner time l_Lines)⟩ := by kernel_rfl
noncomputable def xlp : List U → Option Eff
 | [.i l_Owner, .i time, .r l_Lines] => some ⟨some (xim l_Owner time l_Lines), [], 0, [], .bool (xoy l_Owner time l_Lines)⟩
 | _ => Option.none
noncomputable def K40 : Con := ext Tryz.prog K39 19 [.agg [.int .i64 0, .sl 0], .int .i64 0] [⟨0, 0, false, .row 29 [.int .i64, .int .i64, .int .i64, .int .u64] []⟩] xlp
theorem xAl : xbm Tryz.prog K40 := xav xaD xAm (n := 9) rfl rfl fun us x h => by
 unfold xlp at h
 split at h
 ·cases h; exact ⟨some (xim _ _ _), xqT _ _ _, fun h => h⟩
 ·cases h
theorem xqU (l_Owner kind item from_ until_ : Int) (l_Lines : List (List Int)) : xat Tryz.prog 1 (xa6 Tryz.prog K40 xde 9 20 [.agg [.int .i64 l_Owner, .sl 0], .int .i64 kind, .int .i64 item, .int .i64 from_, .int .i64 until_] ⟨[⟨0, 1, false, .row 29 [.int .i64, .int .i64, .int .i64, .int .u64] l_Lines⟩], 1⟩) = some ⟨some (xin l_Owner kind item from_ until_ l_Lines), [], 0, [], .bool (xoz l_Owner kind item from_ until_ l_Lines)⟩ := by kernel_rfl
noncomputable def xlq : List U → Option Eff
 | [.i l_Owner, .i kind, .i item, .i from_, .i until_, .r l_Lines] => some ⟨some (xin l_Owner kind item from_ until_ l_Lines), [], 0, [], .bool (xoz l_Owner kind item from_ until_ l_Lines)⟩
 | _ => Option.none
noncomputable def K41 : Con := ext Tryz.prog K40 20 [.agg [.int .i64 0, .sl 0], .int .i64 0, .int .i64 0, .int .i64 0, .int .i64 0] [⟨0, 0, false, .row 29 [.int .i64, .int .i64, .int .i64, .int .u64] []⟩] xlq
theorem xAk : xbm Tryz.prog K41 := xav xaD xAl (n := 9) rfl rfl fun us x h => by
 unfold xlq at h
 split at h
 ·cases h; exact ⟨some (xin _ _ _ _ _ _), xqU _ _ _ _ _ _, fun h => h⟩
 ·cases h
theorem xrc (n : Int) (list : List (List Int)) : xat Tryz.prog 1 (xa6 Tryz.prog K41 xde 9 18 [.sl 0, .int .i64 n] ⟨[⟨0, 1, false, .row 3 [.int .i64] list⟩], 1⟩) = some ⟨some (xis n list), [], 0, [], .bool (xoT n list)⟩ := by kernel_rfl
noncomputable def xlE : List U → Option Eff
 | [.i n, .r list] => some ⟨some (xis n list), [], 0, [], .bool (xoT n list)⟩
 | _ => Option.none
noncomputable def K42 : Con := ext Tryz.prog K41 18 [.sl 0, .int .i64 0] [⟨0, 0, false, .row 3 [.int .i64] []⟩] xlE
theorem xAj : xbm Tryz.prog K42 := xav xaD xAk (n := 9) rfl rfl fun us x h => by
 unfold xlE at h
 split at h
 ·cases h; exact ⟨some (xis _ _), xrc _ _, fun h => h⟩
 ·cases h
end Go.Proofs.YtikhnofbbcmpeaaGreat
set_option maxRecDepth 100000
set_option linter.unusedVariables false
namespace Go.Proofs.YtikhnofbbcmpeaaGreat
open Go Go.Sy
noncomputable def xfB (office_Owner : Int) (office_Lines ships chances : List (List Int)) : List U :=
 [.b (false), .i ((0 : Int))]
noncomputable def xcU (office_Owner : Int) (office_Lines ships chances : List (List Int)) (y0 : List U) : Option (Nat × List U) :=
 (bif decide (gi y0 1 < (↑ships.length : Int)) then xae (inR (gi y0 1) ships) (xae (inR (gi y0 1) ships) (xae (inR (gi y0 1) ships) (xae ((decide ((↑(decL ((ships.getD (gi y0 1).toNat []).getD 1 (0 : Int))).length : Int) > (40 : Int)) = true) → (inR (gi y0 1) ships)) (xae ((decide ((↑(decL ((ships.getD (gi y0 1).toNat []).getD 1 (0 : Int))).length : Int) > (40 : Int)) = true) → (inR (gi y0 1) ships)) ((bif decide ((↑(decL ((ships.getD (gi y0 1).toNat []).getD 1 (0 : Int))).length : Int) > (40 : Int)) == true then xae (inR (gi y0 1) ships) ((bif decide ((↑(decL ((ships.getD (gi y0 1).toNat []).getD 1 (0 : Int))).length : Int) ≤ (200 : Int)) then some (1, []) else some (0, [.b (gb y0 0), .i (IntKind.i64.wrap (gi y0 1 + (1 : Int)))]))) else some (0, [.b (gb y0 0), .i (IntKind.i64.wrap (gi y0 1 + (1 : Int)))]))))))) else some (4, [.b (gb y0 0), .i (gi y0 1)]))
noncomputable def xrX (office_Owner : Int) (office_Lines ships chances : List (List Int)) : Nat × List U := xaw (xcU office_Owner office_Lines ships chances) (xfB office_Owner office_Lines ships chances)
noncomputable def xd8 (office_Owner : Int) (office_Lines ships chances : List (List Int)) : Bool :=
 bif
  decide ((↑chances.length : Int) > (16 : Int)) && decide ((↑chances.length : Int) ≤ (200 : Int)) || decide ((↑ships.length : Int) > (20 : Int)) ||
   decide ((↑office_Lines.length : Int) > (40 : Int)) && decide ((↑office_Lines.length : Int) ≤ (200 : Int)) then
 false
else bif (xrX office_Owner office_Lines ships chances).fst.beq 1 then false else true
def xe3 (office_Owner : Int) (office_Lines ships chances : List (List Int)) : Prop :=
 (((decide ((↑chances.length : Int) > (16 : Int)) && decide ((↑chances.length : Int) ≤ (200 : Int)) || decide ((↑ships.length : Int) > (20 : Int)) ||
  decide ((↑office_Lines.length : Int) > (40 : Int)) && decide ((↑office_Lines.length : Int) ≤ (200 : Int))) =
 false) → ((xaH (xcU office_Owner office_Lines ships chances) (xfB office_Owner office_Lines ships chances))))
end Go.Proofs.YtikhnofbbcmpeaaGreat
set_option maxRecDepth 100000
set_option linter.unusedVariables false
namespace Go.Proofs.YtikhnofbbcmpeaaGreat
open Go Go.Sy
theorem xqV (office_Owner : Int) (office_Lines ships chances : List (List Int)) : xat Tryz.prog 3 (xa6 Tryz.prog K42 xde 9 21 [.agg [.int .i64 office_Owner, .sl 0], .sl 1, .sl 2] ⟨[⟨0, 3, false, .row 29 [.int .i64, .int .i64, .int .i64, .int .u64] office_Lines⟩, ⟨1, 3, false, .nst 24 [.c (.int .i64), .s 29 [.int .i64, .int .i64, .int .i64, .int .u64]] ships⟩, ⟨2, 3, false, .row 41 [.int .i64, .int .i64, .int .i64] chances⟩], 3⟩) = some ⟨some (xe3 office_Owner office_Lines ships chances), [], 0, [], .bool (xd8 office_Owner office_Lines ships chances)⟩ := by kernel_rfl
noncomputable def xlr : List U → Option Eff
 | [.i office_Owner, .r office_Lines, .r ships, .r chances] => some ⟨some (xe3 office_Owner office_Lines ships chances), [], 0, [], .bool (xd8 office_Owner office_Lines ships chances)⟩
 | _ => Option.none
noncomputable def K43 : Con := ext Tryz.prog K42 21 [.agg [.int .i64 0, .sl 0], .sl 1, .sl 2] [⟨0, 0, false, .row 29 [.int .i64, .int .i64, .int .i64, .int .u64] []⟩, ⟨1, 0, false, .nst 24 [.c (.int .i64), .s 29 [.int .i64, .int .i64, .int .i64, .int .u64]] []⟩, ⟨2, 0, false, .row 41 [.int .i64, .int .i64, .int .i64] []⟩] xlr
theorem xAi : xbm Tryz.prog K43 := xav xaD xAj (n := 9) rfl rfl fun us x h => by
 unfold xlr at h
 split at h
 ·cases h; exact ⟨some (xe3 _ _ _ _), xqV _ _ _ _, fun h => h⟩
 ·cases h
end Go.Proofs.YtikhnofbbcmpeaaGreat
set_option maxRecDepth 100000
set_option linter.unusedVariables false
namespace Go.Proofs.YtikhnofbbcmpeaaGreat
open Go Go.Sy
noncomputable def xcv (office_Owner time delay : Int) (office_Lines ships chances omissions proof : List (List Int)) : Bool :=
 bif !xd8 office_Owner office_Lines ships chances || decide ((↑omissions.length : Int) > (100 : Int)) || decide ((↑proof.length : Int) > (100 : Int)) then xee
else
 bif xbv office_Owner time delay office_Lines ships chances != (0 : Int) then xee && xbv office_Owner time delay office_Lines ships chances == (1 : Int)
 else
  xee &&
       xb8 office_Owner time delay office_Lines ships chances (xaZ office_Owner time delay office_Lines ships chances)
         (xa8 office_Owner time delay office_Lines ships chances) ==
        (0 : Int) &&
      xb8 office_Owner time delay office_Lines ships chances omissions proof == (0 : Int) &&
     xbI office_Owner time delay office_Lines ships chances (xaZ office_Owner time delay office_Lines ships chances)
      (xa8 office_Owner time delay office_Lines ships chances) &&
    (↑(xaZ office_Owner time delay office_Lines ships chances).length : Int) == (↑(xa8 office_Owner time delay office_Lines ships chances).length : Int) &&
   (!xbI office_Owner time delay office_Lines ships chances omissions proof ||
    (↑omissions.length : Int) == (↑(xaZ office_Owner time delay office_Lines ships chances).length : Int) &&
     (↑proof.length : Int) == (↑(xaZ office_Owner time delay office_Lines ships chances).length : Int))
def xbu (office_Owner time delay : Int) (office_Lines ships chances omissions proof : List (List Int)) : Prop :=
 ((xdI) ∧ ((xe3 office_Owner office_Lines ships chances) ∧ (((!xd8 office_Owner office_Lines ships chances || decide ((↑omissions.length : Int) > (100 : Int)) || decide ((↑proof.length : Int) > (100 : Int))) = false) → ((xbr office_Owner time delay office_Lines ships chances) ∧ (((xbv office_Owner time delay office_Lines ships chances != (0 : Int)) = false) → ((xbj office_Owner time delay office_Lines ships chances (xaZ office_Owner time delay office_Lines ships chances)
 (xa8 office_Owner time delay office_Lines ships chances)) ∧ (xbj office_Owner time delay office_Lines ships chances omissions proof)))))))
end Go.Proofs.YtikhnofbbcmpeaaGreat
set_option maxRecDepth 100000
set_option linter.unusedVariables false
namespace Go.Proofs.YtikhnofbbcmpeaaGreat
open Go Go.Sy
theorem xit (office_Owner time delay : Int) (office_Lines ships chances omissions proof : List (List Int)) : xat Tryz.prog 5 (xa6 Tryz.prog K43 xde 9 8 [.agg [.int .i64 office_Owner, .sl 0], .sl 1, .sl 2, .int .i64 time, .int .i64 delay, .sl 3, .sl 4] ⟨[⟨0, 5, false, .row 29 [.int .i64, .int .i64, .int .i64, .int .u64] office_Lines⟩, ⟨1, 5, false, .nst 24 [.c (.int .i64), .s 29 [.int .i64, .int .i64, .int .i64, .int .u64]] ships⟩, ⟨2, 5, false, .row 41 [.int .i64, .int .i64, .int .i64] chances⟩, ⟨3, 5, false, .row 80 [.int .i64, .int .i64, .int .i64] omissions⟩, ⟨4, 5, false, .row 52 [.int .i64, .int .i64] proof⟩], 5⟩) = some ⟨some (xbu office_Owner time delay office_Lines ships chances omissions proof), [], 0, [], .bool (xcv office_Owner time delay office_Lines ships chances omissions proof)⟩ := by kernel_rfl
noncomputable def xfa : List U → Option Eff
 | [.i office_Owner, .i time, .i delay, .r office_Lines, .r ships, .r chances, .r omissions, .r proof] => some ⟨some (xbu office_Owner time delay office_Lines ships chances omissions proof), [], 0, [], .bool (xcv office_Owner time delay office_Lines ships chances omissions proof)⟩
 | _ => Option.none
noncomputable def K44 : Con := ext Tryz.prog K43 8 [.agg [.int .i64 0, .sl 0], .sl 1, .sl 2, .int .i64 0, .int .i64 0, .sl 3, .sl 4] [⟨0, 0, false, .row 29 [.int .i64, .int .i64, .int .i64, .int .u64] []⟩, ⟨1, 0, false, .nst 24 [.c (.int .i64), .s 29 [.int .i64, .int .i64, .int .i64, .int .u64]] []⟩, ⟨2, 0, false, .row 41 [.int .i64, .int .i64, .int .i64] []⟩, ⟨3, 0, false, .row 80 [.int .i64, .int .i64, .int .i64] []⟩, ⟨4, 0, false, .row 52 [.int .i64, .int .i64] []⟩] xfa
theorem xAh : xbm Tryz.prog K44 := xav xaD xAi (n := 9) rfl rfl fun us x h => by
 unfold xfa at h
 split at h
 ·cases h; exact ⟨some (xbu _ _ _ _ _ _ _ _), xit _ _ _ _ _ _ _ _, fun h => h⟩
 ·cases h
end Go.Proofs.YtikhnofbbcmpeaaGreat
set_option linter.unusedVariables false
set_option maxRecDepth 100000
namespace Go.Proofs.YtikhnofbbcmpeaaGreat
open Go Go.Sy
def runL {σ : Type} (f : σ → List Int → σ ⊕ (Nat × List U)) : σ → List (List Int) → σ ⊕ (Nat × List U)
 | s, [] => .inl s
 | s, x :: r => match f s x with
  | .inl s' => runL f s' r
  | .inr o => .inr o
def goOn {σ : Type} (mk : σ → List U) : σ ⊕ (Nat × List U) → Option (Nat × List U)
 | .inl s => some (0, mk s)
 | .inr o => some (o.1 + 1, o.2)
def endL {σ : Type} (fin : σ → Nat × List U) : σ ⊕ (Nat × List U) → Nat × List U
 | .inl s => ((fin s).1 + 1, (fin s).2)
 | .inr o => (o.1 + 1, o.2)
theorem xdE {σ : Type} {step : List U → Option (Nat × List U)} (l : List (List Int)) (mk : Nat → σ → List U) (f : σ → List Int → σ ⊕ (Nat × List U)) (I : Nat → σ → Prop) (fin : σ → Nat × List U) (k0 : Nat)
  (hs : ∀ i s (hi : i < l.length), k0 ≤ i → I i s → step (mk i s) = goOn (mk (i + 1)) (f s l[i]) ∧ ∀ s', f s l[i] = .inl s' → I (i + 1) s')
  (he : ∀ i s, i = max k0 l.length → I i s → step (mk i s) = some ((fin s).1 + 1, (fin s).2)) {s : σ} (h0 : I k0 s) :
  xaH step (mk k0 s) ∧ xaw step (mk k0 s) = endL fin (runL f s (l.drop k0)) := by
 have key : ∀ m i s, i + m = l.length → k0 ≤ i → I i s → xgG step (m + 1) (mk i s) = some (endL fin (runL f s (l.drop i))) := by
  intro m
  induction m with
  | zero =>
   intro i s hi hk h
   rw [List.drop_eq_nil_of_le (by omega)]
   exact xiu (he i s (by omega) h)
  | succ m ih =>
   intro i s hi hk h
   obtain ⟨h1, h2⟩ := hs i s (by omega) hk h
   rw [List.drop_eq_getElem_cons (by omega : i < l.length)]
   unfold runL
   cases hf : f s l[i] with
   | inl s' =>
    rw [hf] at h1
    exact xhS h1 (ih (i + 1) s' (by omega) (by omega) (h2 s' hf))
   | inr o =>
    rw [hf] at h1
    unfold xgG
    rw [h1]; rfl
 by_cases hk : k0 ≤ l.length
 ·exact xkX (key (l.length - k0) k0 s (by omega) (Nat.le_refl _) h0)
 ·rw [List.drop_eq_nil_of_le (by omega)]
  exact xkX (xiu (he k0 s (by omega) h0))
theorem xbO {l : List (List Int)} {i : Nat} (hi : i < l.length) : l.getD i [] = l[i] := by rw [List.getD_eq_getElem?_getD, List.getElem?_eq_getElem hi]; rfl
theorem xbl {l : List (List Int)} {i : Nat} (hi : i < l.length) : l.getD (i : Int).toNat [] = l[i] := by rw [Int.toNat_natCast]; exact xbO hi
theorem xeo {i : Nat} (h : i < 9223372036854775807) : IntKind.i64.wrap ((i : Int) + 1) = ((i + 1 : Nat) : Int) := by
 rw [xgl (by omega)]; rfl
theorem xir {step : List U → Option (Nat × List U)} {l : List (List Int)} {p : List Int → Bool} (m : Nat) (hs : ∀ i (hi : i < l.length), step [.i 0, .i i] = bif p l[i] then some (1, [.i i]) else some (0, [.i 0, .i ((i + 1 : Nat) : Int)]))
  (he : step [.i 0, .i l.length] = some (m + 2, [.i 0, .i l.length])) {init : List U} (hi : init = [.i 0, .i ((0 : Nat) : Int)]) :
  xaH step init ∧ decide ((bif (xaw step init).fst.beq 1 then gi (xaw step init).snd 0 else (-1 : Int)) ≥ 0) = l.any p := by
 subst hi
 obtain ⟨h1, h2⟩ := xfG (step := step) l.length (fun i => p (l.getD i [])) (fun i => [.i 0, .i i]) (fun i => [.i i]) 0 (m + 1) [.i 0, .i l.length]
  (fun i hi => by rw [hs i hi, xbO hi]) he
 refine ⟨h1, ?_⟩
 rcases h2 with ⟨i, hi, hp, _, hg⟩ | ⟨hn, hg⟩
 ·rw [hg]
  have : l.any p = true := List.any_eq_true.2 ⟨l[i], List.getElem_mem hi, by rw [← xbO hi]; exact hp⟩
  rw [this]
  show decide ((bif true then gi [.i (i : Int)] 0 else (-1 : Int)) ≥ 0) = true
  rw [cond_true, gi_z]
  exact decide_eq_true (by omega)
 ·rw [hg]
  have : l.any p = false := List.any_eq_false.2 fun x hx => by
   obtain ⟨i, hi, rfl⟩ := List.getElem_of_mem hx
   have := hn i hi
   simp only [xbO hi] at this
   simp [this]
  rw [this]
  show decide ((bif Nat.beq (m + 1 + 1) 1 then gi [.i 0, .i (l.length : Int)] 0 else (-1 : Int)) ≥ 0) = false
  rfl
def mixD (h x : Int) : Int :=
 bXor IntKind.u64 (IntKind.u64.wrap (bXor IntKind.u64 h (IntKind.u64.wrap x) * 11507291218515648293)) ((IntKind.u64.wrap (bXor IntKind.u64 h (IntKind.u64.wrap x) * 11507291218515648293)).fdiv ((2 : Int) ^ min (Int.toNat (32 : Int)) IntKind.u64.bits))
def digF (l : List Int) : Int := l.foldl mixD (IntKind.u64.wrap (11400714819323198485 + IntKind.u64.wrap l.length))
theorem xgY {σ : Type} (g : σ → List Int → σ) : ∀ (l : List (List Int)) (s : σ), runL (fun s x => .inl (g s x)) s l = .inl (l.foldl g s)
 | [], s => rfl
 | x :: r, s => xgY g r (g s x)
theorem xxd (l : List (List Int)) (hl : l.length ≤ 9223372036854775807) : xdG l ∧ xeJ l = digF (l.map fun x => x.getD 0 0) := by
 obtain ⟨h1, h2⟩ := xdE (step := xcO l) l (fun i (s : Int) => [.i s, .i i]) (fun s x => .inl (mixD s (x.getD 0 0))) (fun _ _ => True) (fun s => (1, [.i s, .i (l.length : Int)])) 0
  (fun i s hi _ _ => ⟨by
   unfold xcO xjX
   simp only [gi_z, gi_1, dlt hi, xaa (xa0 hi), xaa (show (0 : Int) ≤ 32 by decide), xeo (show i < 9223372036854775807 by omega), xbl hi]
   rfl, fun _ _ => trivial⟩)
  (fun i s hi _ => by
   have : i = l.length := by omega
   subst this
   unfold xcO
   simp only [gi_z, gi_1, dnlt]) (s := IntKind.u64.wrap (11400714819323198485 + IntKind.u64.wrap l.length)) trivial
 refine ⟨h1, ?_⟩
 unfold xeJ xjY
 have hi : xeC l = [.i (IntKind.u64.wrap (11400714819323198485 + IntKind.u64.wrap l.length)), .i ((0 : Nat) : Int)] := rfl
 rw [hi, h2, List.drop_zero, xgY]
 unfold digF
 rw [List.foldl_map, List.length_map]
 rfl
def sumF (owner last t k n : Int) : Int := digF [owner, IntKind.i64.wrap last, t, k, n]
theorem xt9 (owner last t k n s : Int) : xbC owner last t k n s ∧ xbW owner last t k n s = sumF owner last t k n := xxd _ (by simp)
def clsF (k : Int) : Int := if k = 1 then 1 else if k = 2 ∨ k = 3 then 2 else if k = 4 ∨ k = 5 then 3 else 0
theorem bne {a b : Int} (h : ¬ a = b) : (a == b) = false := beq_eq_false_iff_ne.2 h
theorem xoc (k : Int) : xbY k = clsF k := by
 unfold xbY xiX xiW clsF
 by_cases h1 : k = 1
 ·subst h1; rfl
 by_cases h2 : k = 2
 ·subst h2; rfl
 by_cases h3 : k = 3
 ·subst h3; rfl
 by_cases h4 : k = 4
 ·subst h4; rfl
 by_cases h5 : k = 5
 ·subst h5; rfl
 rw [bne h1, bne h2, bne h3, bne h4, bne h5, if_neg h1, if_neg (by simp [h2, h3]), if_neg (by simp [h4, h5])]
 rfl
def tmF (t : Int) : Bool := decide (0 ≤ t) && decide (t ≤ 10000000)
def itF (n : Int) : Bool := decide (1 ≤ n) && decide (n ≤ 10000)
def lnF (t k n : Int) : Bool := if clsF k = 0 then false else if clsF k = 3 then tmF t && n == 0 else tmF t && itF n
def ownF (owner k : Int) : Bool := (owner == 0) == (clsF k == 1)
theorem xok (t : Int) : xar t = tmF t := rfl
theorem xwG (t : Int) : xeH t = itF t := rfl
theorem xwy (t k n : Int) : xbQ t k n = lnF t k n := by
 unfold xbQ lnF
 rw [xoc, xok, xwG]
 by_cases h0 : clsF k = 0
 ·rw [h0]; rfl
 ·by_cases h3 : clsF k = 3
  ·rw [h3]; rfl
  ·rw [bne h0, bne h3, if_neg h0, if_neg h3]; rfl
theorem xyh (o k : Int) : xbh o k = ownF o k := by unfold xbh ownF; rw [xoc]
end Go.Proofs.YtikhnofbbcmpeaaGreat
set_option linter.unusedVariables false
set_option maxRecDepth 100000
namespace Go.Proofs.YtikhnofbbcmpeaaGreat
open Go Go.Sy
abbrev col (x : List Int) (j : Nat) : Int := x.getD j 0
def vldF (o : Int) : Bool → Int → Int → List (List Int) → Bool
 | _, _, _, [] => true
 | off, last, now, x :: r =>
  if (!lnF (col x 0) (col x 1) (col x 2) || !ownF o (col x 1) || decide (col x 0 < now) || col x 3 != sumF o last (col x 0) (col x 1) (col x 2)) = true then false
  else if clsF (col x 1) = 3 then (if off = (col x 1 == 4) then false else vldF o (!off) (col x 3) (col x 0) r)
  else vldF o off (col x 3) (col x 0) r
def valF (o : Int) (l : List (List Int)) : Bool := decide (0 ≤ o) && decide (o ≤ 8) && decide (l.length ≤ 200) && vldF o false 0 0 l
def xme (o : Int) (s : Bool × Int × Int) (x : List Int) : (Bool × Int × Int) ⊕ (Nat × List U) :=
 if (!lnF (col x 0) (col x 1) (col x 2) || !ownF o (col x 1) || decide (col x 0 < s.2.2) || col x 3 != sumF o s.2.1 (col x 0) (col x 1) (col x 2)) = true then .inr (0, [])
 else if clsF (col x 1) = 3 then (if s.1 = (col x 1 == 4) then .inr (1, []) else .inl (!s.1, col x 3, col x 0))
 else .inl (s.1, col x 3, col x 0)
theorem xoj (o : Int) (n : Int) : ∀ (l : List (List Int)) (s : Bool × Int × Int),
  (bif (endL (fun s : Bool × Int × Int => (4, [.b false, .b s.1, .i s.2.1, .i s.2.2, .i n])) (runL (xme o) s l)).1.beq 1 then false else bif (endL (fun s : Bool × Int × Int => (4, [.b false, .b s.1, .i s.2.1, .i s.2.2, .i n])) (runL (xme o) s l)).1.beq 2 then false else true) = vldF o s.1 s.2.1 s.2.2 l
 | [], s => rfl
 | x :: r, s => by
  unfold runL vldF
  by_cases h1 : (!lnF (col x 0) (col x 1) (col x 2) || !ownF o (col x 1) || decide (col x 0 < s.2.2) || col x 3 != sumF o s.2.1 (col x 0) (col x 1) (col x 2)) = true
  ·have e : xme o s x = .inr (0, []) := by unfold xme; rw [if_pos h1]
   rw [e, if_pos h1]; rfl
  ·rw [if_neg h1]
   by_cases h2 : clsF (col x 1) = 3
   ·rw [if_pos h2]
    by_cases h3 : s.1 = (col x 1 == 4)
    ·have e : xme o s x = .inr (1, []) := by unfold xme; rw [if_neg h1, if_pos h2, if_pos h3]
     rw [e, if_pos h3]; rfl
    ·have e : xme o s x = .inl (!s.1, col x 3, col x 0) := by unfold xme; rw [if_neg h1, if_pos h2, if_neg h3]
     rw [e, if_neg h3]
     exact xoj o n r _
   ·have e : xme o s x = .inl (s.1, col x 3, col x 0) := by unfold xme; rw [if_neg h1, if_neg h2]
    rw [e, if_neg h2]
    exact xoj o n r _
theorem xu0 (o : Int) (l : List (List Int)) (hl : l.length ≤ 9223372036854775807) : xaH (xbN o l) (xei o l) ∧ xf7 o l = endL (fun s : Bool × Int × Int => (4, [.b false, .b s.1, .i s.2.1, .i s.2.2, .i l.length])) (runL (xme o) (false, 0, 0) l) := by
 have h := xdE (step := xbN o l) l (fun i (s : Bool × Int × Int) => [.b false, .b s.1, .i s.2.1, .i s.2.2, .i i]) (xme o) (fun _ _ => True) (fun s => (4, [.b false, .b s.1, .i s.2.1, .i s.2.2, .i l.length])) 0
  (fun i s hi _ _ => ⟨by
   unfold xbN xiY
   simp only [gi_4, gi_3, gi_2, gi_1, gi_z, gb_1, gb_z, dlt hi, xaa (xa0 hi), xeo (show i < 9223372036854775807 by omega), xbl hi, xwy, xyh, (xt9 _ _ _ _ _ _).2, xoc]
   rw [xaa (fun _ => (xt9 _ _ _ _ _ _).1)]
   generalize l[i] = x
   unfold xme
   cases h1 : (!lnF (col x 0) (col x 1) (col x 2) || !ownF o (col x 1) || decide (col x 0 < s.2.2) || col x 3 != sumF o s.2.1 (col x 0) (col x 1) (col x 2)) with
   | true => rw [if_pos rfl]; rfl
   | false =>
    rw [if_neg (by decide), cond_false]
    by_cases h2 : clsF (col x 1) = 3
    ·rw [if_pos h2, h2]
     by_cases h3 : s.1 = (col x 1 == 4)
     ·rw [if_pos h3, h3]; simp only [beq_self_eq_true, cond_true]; rfl
     ·rw [if_neg h3]
      have : (s.1 == (col x 1 == 4)) = false := by simpa using h3
      rw [this]; rfl
    ·rw [if_neg h2]
     rw [bne h2]; rfl, fun _ _ => trivial⟩)
  (fun i s hi _ => by
   have : i = l.length := by omega
   subst this
   unfold xbN
   simp only [gi_4, gi_3, gi_2, gi_1, gi_z, gb_1, gb_z, dnlt]) (s := (false, 0, 0)) trivial
 rw [List.drop_zero] at h
 exact h
theorem xe0 (o : Int) (l : List (List Int)) (hl : l.length ≤ 9223372036854775807) : xaz o l ∧ xad o l = valF o l := by
 obtain ⟨h1, h2⟩ := xu0 o l hl
 refine ⟨fun _ => h1, ?_⟩
 unfold xad valF
 rw [h2]
 have := xoj o l.length l (false, 0, 0)
 rw [this]
 by_cases h0 : 0 ≤ o
 ·by_cases h8 : o ≤ 8
  ·by_cases h200 : l.length ≤ 200
   ·simp [h0, h8, h200, show ¬ o < 0 by omega, show ¬ o > 8 by omega, show ¬ ((l.length : Int) > 200) by omega]
   ·simp [h0, h8, h200, show ((l.length : Int) > 200) by omega]
  ·simp [h8, show o > 8 by omega]
 ·simp [h0, show o < 0 by omega]
def onF (t : Int) : Bool → List (List Int) → Bool
 | b, [] => b
 | b, x :: r => if col x 0 > t then b else onF t (if clsF (col x 1) = 3 then col x 1 == 5 else b) r
def xlv (t : Int) (s : Bool) (x : List Int) : Bool ⊕ (Nat × List U) := if col x 0 > t then .inr (2, [.b s]) else .inl (if clsF (col x 1) = 3 then col x 1 == 5 else s)
theorem xqb (t n : Int) : ∀ (l : List (List Int)) (s : Bool),
  (bif (endL (fun s : Bool => (3, [.i n, .b s])) (runL (xlv t) s l)).1.beq 3 then gb (endL (fun s : Bool => (3, [.i n, .b s])) (runL (xlv t) s l)).2 0 else gb (endL (fun s : Bool => (3, [.i n, .b s])) (runL (xlv t) s l)).2 1) = onF t s l
 | [], s => rfl
 | x :: r, s => by
  unfold runL onF
  by_cases h : col x 0 > t
  ·have e : xlv t s x = .inr (2, [.b s]) := by unfold xlv; rw [if_pos h]
   rw [e, if_pos h]; rfl
  ·have e : xlv t s x = .inl (if clsF (col x 1) = 3 then col x 1 == 5 else s) := by unfold xlv; rw [if_neg h]
   rw [e, if_neg h]
   exact xqb t n r _
theorem xwi (o t : Int) (l : List (List Int)) (hl : l.length ≤ 9223372036854775807) : xcq o t l ∧ xaB o t l = onF t true l := by
 obtain ⟨h1, h2⟩ := xdE (step := xc7 o t l) l (fun i (s : Bool) => [.i i, .b s]) (xlv t) (fun _ _ => True) (fun s => (3, [.i l.length, .b s])) 0
  (fun i s hi _ _ => ⟨by
   unfold xc7 xlv
   simp only [gi_z, gb_1, gb_z, dlt hi, xaa (xa0 hi), xeo (show i < 9223372036854775807 by omega), xbl hi, xoc]
   generalize l[i] = x
   by_cases h1 : col x 0 > t
   ·rw [if_pos h1, decide_eq_true h1]; rfl
   ·rw [if_neg h1, decide_eq_false h1]
    by_cases h2 : clsF (col x 1) = 3
    ·rw [if_pos h2, h2]; rfl
    ·rw [if_neg h2, bne h2]; rfl, fun _ _ => trivial⟩)
  (fun i s hi _ => by
   have : i = l.length := by omega
   subst this
   unfold xc7
   simp only [gi_z, gb_1, gb_z, dnlt]) (s := true) trivial
 rw [List.drop_zero] at h2
 refine ⟨h1, ?_⟩
 unfold xaB xgj
 have hi : xfb o t l = [.i ((0 : Nat) : Int), .b true] := rfl
 rw [hi, h2]
 exact xqb t l.length l true
def xtu (j : Nat) (d : Int) (l : List (List Int)) : Int := match l.getLast? with | some x => col x j | none => d
theorem xtt (o : Int) (l : List (List Int)) (hl : l.length ≤ 9223372036854775807) : xbH o l ∧ xaW o l = xtu 0 (-1) l ∧ xaV o l = xtu 3 0 l := by
 unfold xbH xaW xjC xaV xjB xtu
 by_cases h : l.length = 0
 ·have : l = [] := List.eq_nil_of_length_eq_zero h
  subst this
  refine ⟨fun h => ?_, rfl, rfl⟩
  simp at h
 ·have hw : IntKind.i64.wrap ((l.length : Int) - 1) = ((l.length - 1 : Nat) : Int) := by rw [xgl (by omega)]; omega
  have hr : inR (IntKind.i64.wrap ((l.length : Int) - 1)) l := by rw [hw]; exact xa0 (by omega)
  have hd : decide ((l.length : Int) > 0) = true := decide_eq_true (by omega)
  have hg : l.getLast? = some l[l.length - 1] := by rw [List.getLast?_eq_getElem?, List.getElem?_eq_getElem (by omega)]
  refine ⟨fun _ => ⟨hr, hr, hr, hr, hr, hr⟩, ?_, ?_⟩
  ·rw [hd, cond_true, hw, xbl (by omega), hg]
  ·rw [hd, cond_true, hw, xbl (by omega), hg]
def xu5 (n t : Int) (l : List (List Int)) : Bool := l.any fun x => col x 2 == n && (decide (t < 0) || col x 0 == t)
theorem xqN (o n t : Int) (l : List (List Int)) (hl : l.length ≤ 9223372036854775807) : xb6 o n t l ∧ xaE o n t l = xu5 n t l :=
 xir (step := xcM o n t l) (p := fun x => col x 2 == n && (decide (t < 0) || col x 0 == t)) 1
  (fun i hi => by
   unfold xcM
   simp only [gi_z, gi_1, dlt hi, xaa (xa0 hi), xeo (show i < 9223372036854775807 by omega), xbl hi])
  (by unfold xcM; simp only [gi_z, gi_1, dnlt]) rfl
def badC (x : List Int) : Bool := !tmF (col x 2) || !itF (col x 1) || decide (col x 0 < 1) || decide (col x 0 > 8)
def chF (l : List (List Int)) : Bool := decide (l.length ≤ 200) && !l.any badC
theorem xif (l : List (List Int)) (hl : l.length ≤ 9223372036854775807) : xbq l ∧ xau l = chF l := by
 obtain ⟨h1, h2⟩ := xir (step := xbZ l) (l := l) (p := badC) 1
  (fun i hi => by
   unfold xbZ
   simp only [gi_z, gi_1, dlt hi, xaa (xa0 hi), xeo (show i < 9223372036854775807 by omega), xbl hi, xok, xwG]
   rfl)
  (by unfold xbZ; simp only [gi_z, gi_1, dnlt]) (init := xdv l) rfl
 refine ⟨fun _ => h1, ?_⟩
 unfold xau chF xfc
 rw [h2]
 congr 1
 exact decide_eq_decide.2 (by omega)
def hasN (n : Int) (l : List (List Int)) : Bool := l.any fun x => n == col x 0
theorem xtL (n : Int) (l : List (List Int)) (hl : l.length ≤ 9223372036854775807) : xa2 n l ∧ xbB n l = hasN n l :=
 xir (step := xa3 n l) (p := fun x => n == col x 0) 1
  (fun i hi => by
   unfold xa3
   simp only [gi_z, gi_1, dlt hi, xaa (xa0 hi), xeo (show i < 9223372036854775807 by omega), xbl hi])
  (by unfold xa3; simp only [gi_z, gi_1, dnlt]) rfl
end Go.Proofs.YtikhnofbbcmpeaaGreat
set_option linter.unusedVariables false
set_option maxRecDepth 100000
namespace Go.Proofs.YtikhnofbbcmpeaaGreat
open Go Go.Sy
def xq2 (l : List Int) : List Int := dd none (xeY leI l)
theorem xr6 (l : List Int) : (xq2 l).length ≤ l.length := by
 unfold xq2
 refine Nat.le_trans (xlZ _ _) ?_
 rw [xef]; exact Nat.le_refl _
theorem xwh (s : List (List Int)) : List.take (xem (xbf s)).toNat (xc9 (xbf s)) = xcT (xq2 (nums s)) ∧ 0 ≤ xem (xbf s) ∧ xem (xbf s) ≤ ((xc9 (xbf s)).length : Int) := by
 have e1 : nums (xbf s) = xeY leI (nums s) := by unfold xbf; rw [xgD]
 have hle := xlZ (xeY leI (nums s)) none
 unfold xem xc9
 rw [e1]
 refine ⟨?_, by omega, ?_⟩
 ·unfold xcT xq2
  rw [Int.toNat_natCast, List.map_append, List.take_left' (by simp)]
 ·simp [xcT]
  omega
theorem xhb {α β : Type} (p : α → Bool) (g : α → β) : ∀ (l : List α) (s : List β), l.foldl (fun s x => if p x = true then s ++ [g x] else s) s = s ++ (l.filter p).map g
 | [], s => by simp
 | x :: r, s => by
  rw [List.foldl_cons, xhb p g r]
  by_cases h : p x = true
  ·rw [if_pos h, List.filter_cons_of_pos h]; simp
  ·rw [if_neg h, List.filter_cons_of_neg h]
theorem xsj {α : Type} (c : Prop) [Decidable c] (s : List α) (a : α) : (if c then s ++ [a] else s).length ≤ s.length + 1 := by
 split
 ·simp
 ·omega
def xkM (t : Int) : List (List Int) → List Int
 | [] => []
 | x :: r => if col x 0 > t then [] else if col x 1 = 3 then col x 2 :: xkM t r else xkM t r
theorem xjf (t : Int) : ∀ l, (xkM t l).length ≤ l.length
 | [] => Nat.le_refl _
 | x :: r => by
  have := xjf t r
  unfold xkM
  split
  ·exact Nat.zero_le _
  ·split <;> simp <;> omega
def xm7 (t : Int) (s : List (List Int)) (x : List Int) : List (List Int) ⊕ (Nat × List U) := if col x 0 > t then .inr (2, [.r s]) else .inl (if col x 1 = 3 then s ++ [[col x 2]] else s)
theorem xp2 (t n : Int) : ∀ (l : List (List Int)) (s : List (List Int)),
  (∃ b, endL (fun s : List (List Int) => (3, [.i n, .r s])) (runL (xm7 t) s l) = if b = true then (3, [.r (s ++ xcT (xkM t l))]) else (4, [.i n, .r (s ++ xcT (xkM t l))]))
 | [], s => ⟨false, by simp [runL, endL, xkM, xcT]⟩
 | x :: r, s => by
  unfold runL xkM
  by_cases h : col x 0 > t
  ·have e : xm7 t s x = .inr (2, [.r s]) := by unfold xm7; rw [if_pos h]
   exact ⟨true, by rw [e, if_pos h]; simp [endL, xcT]⟩
  ·have e : xm7 t s x = .inl (if col x 1 = 3 then s ++ [[col x 2]] else s) := by unfold xm7; rw [if_neg h]
   rw [e, if_neg h]
   obtain ⟨b, hb⟩ := xp2 t n r (if col x 1 = 3 then s ++ [[col x 2]] else s)
   refine ⟨b, ?_⟩
   simp only [hb]
   by_cases h3 : col x 1 = 3
   ·simp only [if_pos h3, xcT, List.map_cons, List.append_assoc, List.cons_append, List.nil_append]
   ·simp only [if_neg h3]
theorem xua (o t : Int) (l : List (List Int)) (hl : l.length ≤ 1000000) : xbM o t l ∧ xcx o t l = xcT (xq2 (xkM t l)) := by
 obtain ⟨h1, h2⟩ := xdE (step := xcw o t l) l (fun i (s : List (List Int)) => [.i i, .r s]) (xm7 t) (fun i s => s.length ≤ i) (fun s => (3, [.i l.length, .r s])) 0
  (fun i s hi _ hI => by
   have hfit : xbJ 8 (s.length + [[col l[i] 2]].length) := by unfold xbJ maxLen; simp only [List.length_cons, List.length_nil]; omega
   refine ⟨?_, fun s' hs' => ?_⟩
   ·unfold xcw xm7
    simp only [gi_z, gr_1, gr_z, dlt hi, xaa (xa0 hi), xeo (show i < 9223372036854775807 by omega), xbl hi]
    rw [xaa hfit]
    generalize l[i] = x
    by_cases h1 : col x 0 > t
    ·rw [if_pos h1, decide_eq_true h1]; rfl
    ·rw [if_neg h1, decide_eq_false h1]
     by_cases h2 : x.getD 1 0 = 3
     ·rw [if_pos h2, h2]; rfl
     ·rw [if_neg h2, bne h2]; rfl
   ·unfold xm7 at hs'
    split at hs'
    ·cases hs'
    ·cases hs'
     exact Nat.le_trans (xsj _ _ _) (by omega))
  (fun i s hi _ => by
   have : i = l.length := by omega
   subst this
   unfold xcw
   simp only [gi_z, gr_1, gr_z, dnlt]) (s := []) (Nat.zero_le _)
 rw [List.drop_zero] at h2
 obtain ⟨b, hb⟩ := xp2 t l.length l []
 have hg : xaA o t l = if b = true then (3, [.r (xcT (xkM t l))]) else (4, [.i l.length, .r (xcT (xkM t l))]) := by
  unfold xaA
  have hi : xeg o t l = [.i ((0 : Nat) : Int), .r []] := rfl
  rw [hi, h2, hb, List.nil_append]
 have hlen : (xcT (xkM t l)).length < 4611686018427387904 := by
  have := xjf t l
  simp [xcT]; omega
 obtain ⟨o1, o2, o3⟩ := xwh (xcT (xkM t l))
 rw [xgD] at o1
 unfold xbM xcx xiR
 rw [hg]
 cases b with
 | true =>
  rw [if_pos rfl]
  exact ⟨⟨h1, fun _ => ⟨hlen, o2, o3⟩, fun h => by cases h⟩, o1⟩
 | false =>
  rw [if_neg (by decide)]
  exact ⟨⟨h1, (fun h => by cases h), fun _ => ⟨hlen, o2, o3⟩⟩, o1⟩
def xrQ (t : Int) (l : List (List Int)) : List Int := xq2 (xkM t l)
theorem xx5 (o t : Int) (l : List (List Int)) (hl : l.length ≤ 9223372036854775807) : xcn o t l ∧ xcy o t l = (if (valF o l && tmF t) = true then xcT (xrQ t l) else []) ∧ xcZ o t l = if (valF o l && tmF t) = true then 0 else 1 := by
 obtain ⟨v1, v2⟩ := xe0 o l hl
 unfold xcn xcy xcZ
 rw [v2, xok]
 cases hv : valF o l with
 | false => exact ⟨⟨v1, fun h => by cases h⟩, rfl, rfl⟩
 | true =>
  have h200 : l.length ≤ 200 := by
   unfold valF at hv
   simp only [Bool.and_eq_true, decide_eq_true_eq] at hv
   exact hv.1.2
  obtain ⟨s1, s2⟩ := xua o t l (by omega)
  cases ht : tmF t with
  | false => exact ⟨⟨v1, fun h => by cases h⟩, rfl, rfl⟩
  | true => exact ⟨⟨v1, fun _ => s1⟩, s2, rfl⟩
theorem xyO {o : Int} {l : List (List Int)} (h : valF o l = true) : l.length ≤ 200 ∧ 0 ≤ o ∧ o ≤ 8 := by
 unfold valF at h
 simp only [Bool.and_eq_true, decide_eq_true_eq] at h
 exact ⟨h.1.2, h.1.1.1, h.1.1.2⟩
def coP (so t : Int) (office ship : List (List Int)) (c : List Int) : Bool := col c 0 == so && decide (col c 2 ≤ t) && xu5 (col c 1) (col c 2) office && onF (col c 2) true ship
def xsM (so t : Int) (office ship list : List (List Int)) : List Int := (list.filter (coP so t office ship)).map fun c => col c 1
def coOk (oo so t : Int) (office ship list : List (List Int)) : Bool := valF oo office && valF so ship && chF list && tmF t && oo == 0 && so != 0
theorem xuY (oo so t : Int) (office ship list : List (List Int)) (h1 : office.length ≤ 9223372036854775807) (h2 : ship.length ≤ 9223372036854775807) (h3 : list.length ≤ 9223372036854775807) :
  xbw oo so t office ship list ∧ xcB oo so t office ship list = (if coOk oo so t office ship list = true then xcT (xq2 (xsM so t office ship list)) else []) ∧ xcA oo so t office ship list = if coOk oo so t office ship list = true then 0 else 1 := by
 obtain ⟨a1, a2⟩ := xe0 oo office h1
 obtain ⟨b1, b2⟩ := xe0 so ship h2
 obtain ⟨c1, c2⟩ := xif list h3
 unfold xbw xcB xi0 xcA
 rw [a2, b2, c2, xok]
 have e : (!valF oo office || !valF so ship || !chF list || !tmF t || oo != 0 || so == 0) = !coOk oo so t office ship list := by
  unfold coOk
  show (!valF oo office || !valF so ship || !chF list || !tmF t || !(oo == 0) || so == 0) = !(valF oo office && valF so ship && chF list && tmF t && oo == 0 && !(so == 0))
  cases valF oo office <;> cases valF so ship <;> cases chF list <;> cases tmF t <;> cases (oo == 0) <;> cases (so == 0) <;> rfl
 rw [e]
 cases hok : coOk oo so t office ship list with
 | false => exact ⟨⟨a1, fun _ => b1, fun _ => c1, fun h => by cases h⟩, rfl, rfl⟩
 | true =>
  have hlist : list.length ≤ 200 := by
   unfold coOk chF at hok
   simp only [Bool.and_eq_true, decide_eq_true_eq] at hok
   exact hok.1.1.1.2.1
  obtain ⟨g1, g2⟩ := xdE (step := xcz oo so t office ship list) list (fun i (s : List (List Int)) => [.i i, .r s]) (fun s x => .inl (if coP so t office ship x = true then s ++ [[col x 1]] else s)) (fun i s => s.length ≤ i) (fun s => (2, [.i list.length, .r s])) 0
   (fun i s hi _ hI => by
    have hfit : xbJ 8 (s.length + [[col list[i] 1]].length) := by unfold xbJ maxLen; simp only [List.length_cons, List.length_nil]; omega
    refine ⟨?_, fun s' hs' => ?_⟩
    ·unfold xcz
     simp only [gi_z, gr_1, gr_z, dlt hi, xaa (xa0 hi), xeo (show i < 9223372036854775807 by omega), xbl hi, (xqN _ _ _ office h1).2, (xwi _ _ ship h2).2]
     rw [xaa (fun _ => (xqN _ _ _ office h1).1), xaa (fun _ => (xwi _ _ ship h2).1), xaa hfit]
     generalize list[i] = x
     show (bif coP so t office ship x then _ else _) = _
     cases coP so t office ship x
     ·rw [if_neg (by decide)]; rfl
     ·rw [if_pos rfl]; rfl
    ·cases hs'
     exact Nat.le_trans (xsj _ _ _) (by omega))
   (fun i s hi _ => by
    have : i = list.length := by omega
    subst this
    unfold xcz
    simp only [gi_z, gr_1, gr_z, dnlt]) (s := []) (Nat.zero_le _)
  rw [List.drop_zero, xgY, xhb, List.nil_append] at g2
  have hg : xb9 oo so t office ship list = (3, [.i list.length, .r (xcT (xsM so t office ship list))]) := by
   unfold xb9
   have hi : xej oo so t office ship list = [.i ((0 : Nat) : Int), .r []] := rfl
   rw [hi, g2]
   unfold xsM xcT
   rw [List.map_map]
   rfl
  have hlen : (xcT (xsM so t office ship list)).length < 4611686018427387904 := by
   have := List.length_filter_le (coP so t office ship) list
   simp [xcT, xsM]; omega
  obtain ⟨o1, o2, o3⟩ := xwh (xcT (xsM so t office ship list))
  rw [xgD] at o1
  rw [hg]
  exact ⟨⟨a1, fun _ => b1, fun _ => c1, fun _ => ⟨g1, hlen, o2, o3⟩⟩, o1, rfl⟩
end Go.Proofs.YtikhnofbbcmpeaaGreat
set_option linter.unusedVariables false
set_option maxRecDepth 100000
namespace Go.Proofs.YtikhnofbbcmpeaaGreat
open Go Go.Sy
def xAX (m k : Nat) : Bool := (bAnd IntKind.i64 ((m : Int).fdiv ((2 : Int) ^ min k IntKind.i64.bits)) 1 == 1) == m.testBit k
theorem xzs : (List.range 512).all (fun m => (List.range 9).all fun k => xAX m k) = true := by decide +kernel
theorem xyD {m k : Nat} (hm : m < 512) (hk : k < 9) : (bAnd IntKind.i64 ((m : Int).fdiv ((2 : Int) ^ min k IntKind.i64.bits)) 1 == 1) = m.testBit k := by
 have := List.all_eq_true.1 (List.all_eq_true.1 xzs m (List.mem_range.2 hm)) k (List.mem_range.2 hk)
 exact eq_of_beq this
def orOk (m k : Nat) : Bool := bOr IntKind.i64 (m : Int) (bShl IntKind.i64 1 (k : Int)) == ((m ||| 2 ^ k : Nat) : Int)
theorem xzG : (List.range 512).all (fun m => (List.range 9).all fun k => orOk m k) = true := by decide +kernel
theorem xzE {m k : Nat} (hm : m < 512) (hk : k < 9) : bOr IntKind.i64 (m : Int) (bShl IntKind.i64 1 (k : Int)) = ((m ||| 2 ^ k : Nat) : Int) := by
 have := List.all_eq_true.1 (List.all_eq_true.1 xzG m (List.mem_range.2 hm)) k (List.mem_range.2 hk)
 exact eq_of_beq this
def subB (m a : Nat) : Bool := (List.range 9).all fun k => !m.testBit k || a.testBit k
theorem xlx {m : Nat} (hm : m < 512) (i : Nat) : (BitVec.ofInt 64 (m : Int)).getLsbD i = (decide (i < 64) && m.testBit i) := by
 have : BitVec.ofInt 64 (m : Int) = BitVec.ofNat 64 m := by
  apply BitVec.eq_of_toNat_eq
  simp
 rw [this, BitVec.getLsbD_ofNat]
theorem xp0 {m : Nat} (hm : m < 512) {i : Nat} (hi : 9 ≤ i) : m.testBit i = false := by
 refine Nat.testBit_lt_two_pow (Nat.lt_of_lt_of_le hm ?_)
 exact Nat.pow_le_pow_right (n := 2) (by omega) hi
theorem xvN {n : Nat} (h : n < 18446744073709551616) : IntKind.i64.wrap (n : Int) = 0 ↔ n = 0 := by
 constructor
 ·intro hw
  simp only [IntKind.wrap, IntKind.bits, IntKind.signed] at hw
  simp at hw
  split at hw <;> omega
 ·rintro rfl; decide
theorem xzH {m a : Nat} (hm : m < 512) (ha : a < 512) : (bNot IntKind.i64 (m : Int) (a : Int) != 0) = !subB m a := by
 have key : (BitVec.ofInt 64 (m : Int) &&& ~~~(BitVec.ofInt 64 (a : Int))) = 0#64 ↔ subB m a = true := by
  constructor
  ·intro h
   refine List.all_eq_true.2 fun k hk => ?_
   have hk := List.mem_range.1 hk
   have h1 := congrArg (fun v => v.getLsbD k) h
   simp only [BitVec.getLsbD_and, BitVec.getLsbD_not, xlx hm, xlx ha, BitVec.getLsbD_zero] at h1
   have h64 : k < 64 := by omega
   simp only [h64, decide_true, Bool.true_and] at h1
   cases h2 : m.testBit k <;> cases h3 : a.testBit k <;> simp_all
  ·intro h
   apply BitVec.eq_of_getLsbD_eq
   intro i hi
   simp only [BitVec.getLsbD_and, BitVec.getLsbD_not, xlx hm, xlx ha, BitVec.getLsbD_zero]
   by_cases h9 : i < 9
   ·have := List.all_eq_true.1 h i (List.mem_range.2 h9)
    cases h2 : m.testBit i <;> cases h3 : a.testBit i <;> simp_all
   ·rw [xp0 hm (by omega)]; simp
 have hlt : (BitVec.ofInt 64 (m : Int) &&& ~~~(BitVec.ofInt 64 (a : Int))).toNat < 18446744073709551616 := BitVec.isLt _
 have e : bNot IntKind.i64 (m : Int) (a : Int) = IntKind.i64.wrap ((BitVec.ofInt 64 (m : Int) &&& ~~~(BitVec.ofInt 64 (a : Int))).toNat : Int) := rfl
 cases hs : subB m a with
 | true =>
  have := key.2 hs
  rw [e, this]; decide
 | false =>
  have hne : ¬ (BitVec.ofInt 64 (m : Int) &&& ~~~(BitVec.ofInt 64 (a : Int))) = 0#64 := fun h => by rw [key.1 h] at hs; cases hs
  have h0 : ¬ (BitVec.ofInt 64 (m : Int) &&& ~~~(BitVec.ofInt 64 (a : Int))).toNat = 0 := fun h => hne (BitVec.eq_of_toNat_eq h)
  have : ¬ bNot IntKind.i64 (m : Int) (a : Int) = 0 := fun h => h0 ((xvN hlt).1 (e ▸ h))
  simp [this]
def ddF (p : List Int) : List (List Int) → List (List Int)
 | [] => []
 | x :: r => if x = p then ddF p r else x :: ddF x r
def ddR : List (List Int) → List (List Int)
 | [] => []
 | x :: r => x :: ddF x r
theorem xrw (x : List Int) : ∀ (l : List (List Int)) (p : List Int), ddF p (l ++ [x]) = if (l.getLast?.getD p) = x then ddF p l else ddF p l ++ [x]
 | [], p => by
  show (if x = p then ddF p [] else x :: ddF x []) = if p = x then ddF p [] else ddF p [] ++ [x]
  by_cases h : x = p
  ·rw [if_pos h, if_pos h.symm]
  ·rw [if_neg h, if_neg (fun e => h e.symm)]; rfl
 | y :: r, p => by
  have e : (y :: r).getLast?.getD p = r.getLast?.getD y := by
   cases r with
   | nil => rfl
   | cons a b => rw [List.getLast?_cons_cons]; cases h : (a :: b).getLast? with
    | none => simp at h
    | some z => rfl
  rw [List.cons_append, e]
  unfold ddF
  by_cases h : y = p
  ·subst h
   rw [if_pos rfl, if_pos rfl]
   exact xrw x r y
  ·rw [if_neg h, if_neg h, xrw x r y]
   split <;> rfl
theorem xob {l : List (List Int)} {j : Nat} (h0 : 0 < j) (hj : j < l.length) : ddR (l.take (j + 1)) = if l[j] = l[j - 1] then ddR (l.take j) else ddR (l.take j) ++ [l[j]] := by
 cases l with
 | nil => simp at hj
 | cons x r =>
  obtain ⟨i, rfl⟩ : ∃ i, j = i + 1 := ⟨j - 1, by omega⟩
  have hi : i < r.length := by simpa using hj
  simp only [List.take_succ_cons, ddR]
  rw [List.take_succ_eq_append_getElem hi, xrw]
  have e1 : (x :: r)[i + 1] = r[i] := rfl
  have e2 : ((r.take i).getLast?.getD x) = (x :: r)[i + 1 - 1] := by
   cases i with
   | zero => rfl
   | succ i =>
    have hi' : i < r.length := by omega
    rw [List.take_succ_eq_append_getElem hi', List.getLast?_concat]
    rfl
  rw [e1, e2]
  by_cases h : r[i] = (x :: r)[i + 1 - 1]
  ·rw [if_pos h, if_pos h.symm]
  ·rw [if_neg h, if_neg (fun e => h e.symm)]; rfl
theorem xxf {l : List (List Int)} (h : 0 < l.length) : ddR (l.take 1) = [l[0]] := by
 cases l with
 | nil => simp at h
 | cons x r => rfl
theorem xel (l : List (List Int)) : ∀ j, 0 < j → j ≤ l.length → (ddR (l.take j)).length ≤ j ∧ 0 < (ddR (l.take j)).length
 | 0, h, _ => by omega
 | 1, _, h => by rw [xxf (by omega)]; simp
 | j + 2, _, h => by
  obtain ⟨ih1, ih2⟩ := xel l (j + 1) (by omega) (by omega)
  rw [xob (by omega) (by omega)]
  split
  ·omega
  ·simp; omega
theorem xru {l : List (List Int)} : ∀ j, 0 < j → j ≤ l.length → (∀ i (hi : i < l.length), 0 < i → i < j → l[i] ≠ l[i - 1]) → ddR (l.take j) = l.take j
 | 0, h, _, _ => by omega
 | 1, _, h, _ => by rw [xxf (by omega), List.take_succ_eq_append_getElem (by omega)]; simp
 | j + 2, _, h, hne => by
  rw [xob (by omega) (by omega), if_neg (hne (j + 1) (by omega) (by omega) (by omega)), xru (j + 1) (by omega) (by omega) (fun i hi h0 h1 => hne i hi h0 (by omega)), ← List.take_succ_eq_append_getElem]
theorem xrv : ∀ (l : List (List Int)) (p : List Int), l.Pairwise (fun a b => leL [0, 1, 2] a b = true) → (∀ x ∈ l, leL [0, 1, 2] p x = true) → (∀ x ∈ p :: l, ∀ y ∈ p :: l, leL [0, 1, 2] x y = true → leL [0, 1, 2] y x = true → x = y) →
  (ddF p l).Pairwise (fun a b => leL [0, 1, 2] b a = false) ∧ (∀ x ∈ ddF p l, leL [0, 1, 2] x p = false) ∧ ∀ x, x ∈ p :: ddF p l ↔ x ∈ p :: l
 | [], p, _, _, _ => ⟨List.Pairwise.nil, (fun x hx => by cases hx), fun x => Iff.rfl⟩
 | x :: r, p, h, hp, ha => by
  obtain ⟨a1, a2⟩ := List.pairwise_cons.1 h
  by_cases e : x = p
  ·subst e
   have hd : ddF x (x :: r) = ddF x r := by show (if x = x then ddF x r else _) = _; rw [if_pos rfl]
   obtain ⟨b1, b2, b3⟩ := xrv r x a2 a1 (fun y hy z hz => ha y (List.mem_cons_of_mem _ hy) z (List.mem_cons_of_mem _ hz))
   rw [hd]
   refine ⟨b1, b2, fun z => ?_⟩
   rw [b3 z]
   simp
  ·have hd : ddF p (x :: r) = x :: ddF x r := by show (if x = p then ddF p r else _) = _; rw [if_neg e]
   obtain ⟨b1, b2, b3⟩ := xrv r x a2 a1 (fun y hy z hz => ha y (List.mem_cons_of_mem _ hy) z (List.mem_cons_of_mem _ hz))
   have hxp : leL [0, 1, 2] x p = false := by
    cases hx : leL [0, 1, 2] x p with
    | false => rfl
    | true => exact absurd (ha x (by simp) p (by simp) hx (hp x (by simp))) e
   rw [hd]
   refine ⟨List.pairwise_cons.2 ⟨fun z hz => b2 z hz, b1⟩, fun z hz => ?_, fun z => ?_⟩
   ·rcases List.mem_cons.1 hz with rfl | hz
    ·exact hxp
    ·cases hzp : leL [0, 1, 2] z p with
     | false => rfl
     | true =>
      have := xec _ _ _ _ hzp (hp x (by simp))
      rw [b2 z hz] at this
      cases this
   ·rw [List.mem_cons, b3 z, ← List.mem_cons]
theorem xxX {l : List (List Int)} (h : l.Pairwise (fun a b => leL [0, 1, 2] a b = true)) (ha : ∀ x ∈ l, ∀ y ∈ l, leL [0, 1, 2] x y = true → leL [0, 1, 2] y x = true → x = y) : (ddR l).Pairwise (fun a b => leL [0, 1, 2] b a = false) ∧ ∀ x, x ∈ ddR l ↔ x ∈ l := by
 cases l with
 | nil => exact ⟨List.Pairwise.nil, fun x => Iff.rfl⟩
 | cons x r =>
  obtain ⟨a1, a2⟩ := List.pairwise_cons.1 h
  obtain ⟨b1, b2, b3⟩ := xrv r x a2 a1 ha
  exact ⟨List.pairwise_cons.2 ⟨b2, b1⟩, b3⟩
end Go.Proofs.YtikhnofbbcmpeaaGreat
set_option linter.unusedVariables false
set_option maxRecDepth 100000
namespace Go.Proofs.YtikhnofbbcmpeaaGreat
open Go Go.Sy
def rOn (k : Nat) : List Int := [2, (k : Int), 0]
def lft (g : List Int) : List Int := if col g 2 = 0 then [3, col g 0, col g 1] else [1, 0, col g 1]
def cov (m : Nat) (g : List Int) : Bool := col g 3 != 0 && m.testBit (col g 0).toNat
def xhv (m : Nat) (list : List (List Int)) : List (List Int) := ((List.range 9).filter m.testBit).map rOn ++ (list.filter fun g => !cov m g).map lft
def byF (m : Nat) (list : List (List Int)) : List (List Int) := ddR (xeY (leL [0, 1, 2]) (xhv m list))
def xcK (list : List (List Int)) : Prop := ∀ g ∈ list, 0 ≤ col g 0 ∧ col g 0 ≤ 8
theorem xy1 (g : List Int) : (lft g).length = 3 := by unfold lft; split <;> rfl
theorem xmX (m : Nat) (list : List (List Int)) : ∀ x ∈ xhv m list, x.length = 3 := by
 intro x hx
 rcases List.mem_append.1 hx with hx | hx
 ·obtain ⟨k, _, rfl⟩ := List.mem_map.1 hx; rfl
 ·obtain ⟨g, _, rfl⟩ := List.mem_map.1 hx; exact xy1 g
theorem xqS {a b : List Int} (ha : a.length = 3) (hb : b.length = 3) (h0 : col a 0 = col b 0) (h1 : col a 1 = col b 1) (h2 : col a 2 = col b 2) : a = b := by
 match a, b, ha, hb with
 | [a0, a1, a2], [b0, b1, b2], _, _ =>
  have h0 : a0 = b0 := h0
  have h1 : a1 = b1 := h1
  have h2 : a2 = b2 := h2
  rw [h0, h1, h2]
theorem xuf {a b : List Int} (ha : a.length = 3) (hb : b.length = 3) : (col a 0 == col b 0 && (col a 1 == col b 1 && (col a 2 == col b 2 && true))) = decide (a = b) := by
 by_cases h : a = b
 ·subst h; simp
 ·rw [decide_eq_false h]
  cases hq : (col a 0 == col b 0 && (col a 1 == col b 1 && (col a 2 == col b 2 && true))) with
  | false => rfl
  | true =>
   simp only [Bool.and_eq_true, beq_iff_eq] at hq
   exact absurd (xqS ha hb hq.1 hq.2.1 hq.2.2.1) h
theorem xyC {m : Nat} (hm : m < 512) (list : List (List Int)) : xaH (xb3 m list) (xff m list) ∧ gr (xix m list).snd 1 = ((List.range 9).filter m.testBit).map rOn := by
 have hu : ∀ n, upto (fun i (s : List (List Int)) => if m.testBit i = true then s ++ [rOn i] else s) n [] = ((List.range n).filter m.testBit).map rOn := by
  intro n
  induction n with
  | zero => rfl
  | succ n ih =>
   show (if m.testBit n = true then upto _ n [] ++ [rOn n] else upto _ n []) = _
   rw [ih, List.range_succ, List.filter_append, List.map_append]
   cases hb : m.testBit n
   ·simp [hb]
   ·simp [hb]
 obtain ⟨h1, h2, _⟩ := xoQ (step := xb3 m list) 9 (fun i (s : List (List Int)) => [.i i, .r s]) (fun i s => if m.testBit i = true then s ++ [rOn i] else s) (fun i s => s.length ≤ i) 2 (fun s => [.i (9 : Nat), .r s])
  (fun i s hi hI => Nat.le_trans (xsj _ _ _) (by omega))
  (fun i s hi hI => by
   have hfit : xbJ 24 (s.length + [[(2 : Int), (i : Int), 0]].length) := by unfold xbJ maxLen; simp only [List.length_cons, List.length_nil]; omega
   unfold xb3
   simp only [gi_z, gr_1, gr_z, decide_eq_true (show (i : Int) < 9 by omega), cond_true, xaa (show (0 : Int) ≤ (i : Int) by omega), Int.toNat_natCast, xyD hm hi, xeo (show i < 9223372036854775807 by omega)]
   rw [xaa hfit]
   cases m.testBit i
   ·rw [if_neg (by decide)]; rfl
   ·rw [if_pos rfl]; rfl)
  (fun s hI => by
   unfold xb3
   simp only [gi_z, gr_1, gr_z]
   rfl) (s := []) (Nat.le_refl _)
 refine ⟨h1, ?_⟩
 have : xix m list = xaw (xb3 m list) [.i ((0 : Nat) : Int), .r []] := rfl
 rw [this, h2]
 show gr [.i (9 : Nat), .r (upto _ 9 [])] 1 = _
 rw [gr_1, gr_z, hu]
theorem xAa {m : Nat} (hm : m < 512) {list : List (List Int)} (hs : xcK list) (hl : list.length ≤ 1000000) : xaH (xcE m list) (xc8 m list) ∧ gr (xam m list).snd 1 = xhv m list := by
 have h9 : (((List.range 9).filter m.testBit).map rOn).length ≤ 9 := by
  rw [List.length_map]
  exact Nat.le_trans (List.length_filter_le _ _) (by simp)
 obtain ⟨h1, h2⟩ := xdE (step := xcE m list) list (fun i (s : List (List Int)) => [.i i, .r s]) (fun s x => .inl (if (!cov m x) = true then s ++ [lft x] else s)) (fun i s => s.length ≤ 9 + i) (fun s => (3, [.i list.length, .r s])) 0
  (fun i s hi _ hI => by
   have hfit : ∀ x : List Int, xbJ 24 (s.length + [x].length) := fun x => by unfold xbJ maxLen; simp only [List.length_cons, List.length_nil]; omega
   refine ⟨?_, fun s' hs' => ?_⟩
   ·obtain ⟨q1, q2⟩ := hs _ (List.getElem_mem hi)
    unfold xcE xlL
    simp only [gi_z, gr_1, gr_z, dlt hi, xaa (xa0 hi), xeo (show i < 9223372036854775807 by omega), xbl hi]
    generalize hx : list[i] = x at *
    rw [xaa (fun _ => q1), xaa (hfit _), xaa (hfit _)]
    have hb := xyD hm (show (col x 0).toNat < 9 by omega)
    have hb' : (bAnd IntKind.i64 ((m : Int).fdiv ((2 : Int) ^ min (x.getD 0 0).toNat IntKind.i64.bits)) 1 == 1) = m.testBit (col x 0).toNat := hb
    rw [hb']
    show (bif cov m x then _ else _) = _
    cases cov m x with
    | true => rw [if_neg (by decide)]; rfl
    | false =>
     rw [if_pos (show (!false) = true from rfl)]
     unfold lft
     by_cases h2 : x.getD 2 0 = 0
     ·rw [if_pos h2, h2]; rfl
     ·rw [if_neg h2]
      have : (x.getD 2 0 != 0) = true := by simpa using h2
      rw [this]; rfl
   ·cases hs'
    exact Nat.le_trans (xsj _ _ _) (by omega))
  (fun i s hi _ => by
   have : i = list.length := by omega
   subst this
   unfold xcE
   simp only [gi_z, gr_1, gr_z, dnlt]) (s := ((List.range 9).filter m.testBit).map rOn) (by omega)
 have e : xc8 m list = [.i ((0 : Nat) : Int), .r (((List.range 9).filter m.testBit).map rOn)] := by
  unfold xc8
  rw [(xyC hm list).2]; rfl
 unfold xam
 rw [e]
 refine ⟨h1, ?_⟩
 rw [h2, List.drop_zero, xgY, xhb]
 show gr [.i list.length, .r _] 1 = _
 rw [gr_1, gr_z]
 rfl
theorem xzA {a : List Int} (x y z : Int) : xnE 3 a 0 [x, y, z] = [x, y, z] := rfl
theorem xz8 {set : Int} {list T : List (List Int)} (hT : xaM 3 [0, 1, 2] (gr (xam set list).snd 1) = T) (h3 : ∀ x ∈ T, x.length = 3) {k0 : Nat} (hk : 0 < k0) (hk' : k0 < T.length) (hlen : T.length ≤ 10000000) (hd : ddR (T.take (k0 + 1)) = T.take k0) :
  xaH (xb1 set list [.i k0]) (xcD set list [.i k0]) ∧ ∃ (k : Nat) (S : List (List Int)), xap set list [.i k0] = (3, [.i k, .i (T.length - k0 : Nat), .r S]) ∧ k ≤ T.length ∧ S.length = T.length ∧ S.take k = ddR T := by
 have h3at : ∀ j (hj : j < T.length), T[j].length = 3 := fun j hj => h3 _ (List.getElem_mem hj)
 let f : Nat → Nat × List (List Int) → Nat × List (List Int) := fun i s => if T.getD (k0 + (i + 1)) [] = T.getD (k0 + i) [] then s else (s.1 + 1, s.2.set s.1 (T.getD (k0 + (i + 1)) []))
 let I : Nat → Nat × List (List Int) → Prop := fun i s => s.1 = (ddR (T.take (k0 + i + 1))).length ∧ s.2.length = T.length ∧ s.2.take s.1 = ddR (T.take (k0 + i + 1)) ∧ (∀ p, k0 + i ≤ p → s.2[p]? = T[p]?) ∧ s.1 ≤ k0 + i
 have hI : ∀ i s, i < T.length - k0 - 1 → I i s → I (i + 1) (f i s) := by
  rintro i ⟨k, S⟩ hi ⟨q1, q2, q3, q4, q5⟩
  have q5 : k ≤ k0 + i := q5
  have q4 : ∀ p, k0 + i ≤ p → S[p]? = T[p]? := q4
  have hj : k0 + i + 1 < T.length := by omega
  have e1 : T.getD (k0 + (i + 1)) [] = T[k0 + i + 1] := xbO (i := k0 + i + 1) hj
  have e2 : T.getD (k0 + i) [] = T[k0 + i] := xbO (by omega)
  have hdt := xob (l := T) (j := k0 + i + 1) (by omega) hj
  have hdl := xel T (k0 + i + 1) (by omega) (by omega)
  show I (i + 1) (if T.getD (k0 + (i + 1)) [] = T.getD (k0 + i) [] then (k, S) else (k + 1, S.set k (T.getD (k0 + (i + 1)) [])))
  rw [e1, e2]
  have e3 : k0 + i + 1 - 1 = k0 + i := rfl
  by_cases h : T[k0 + i + 1] = T[k0 + i]
  ·rw [if_pos h]
   rw [if_pos (by simpa using h)] at hdt
   refine ⟨?_, q2, ?_, fun p hp => q4 p (by omega), by show k ≤ k0 + (i + 1); omega⟩
   ·rw [show k0 + (i + 1) + 1 = k0 + i + 1 + 1 by omega, hdt]; exact q1
   ·rw [show k0 + (i + 1) + 1 = k0 + i + 1 + 1 by omega, hdt]; exact q3
  ·rw [if_neg h]
   rw [if_neg (by simpa using h)] at hdt
   have q1 : k = _ := q1
   have q2 : S.length = T.length := q2
   have q3 : S.take k = _ := q3
   refine ⟨?_, by simp [q2], ?_, fun p hp => ?_, by show k + 1 ≤ k0 + (i + 1); omega⟩
   ·rw [show k0 + (i + 1) + 1 = k0 + i + 1 + 1 by omega, hdt, List.length_append, ← q1]; rfl
   ·show (S.set k T[k0 + i + 1]).take (k + 1) = _
    rw [show k0 + (i + 1) + 1 = k0 + i + 1 + 1 by omega, hdt, List.take_succ_eq_append_getElem (by simp; omega)]
    congr 1
    ·rw [List.take_set_of_le (Nat.le_refl _), q3]
    ·simp
   ·show (S.set k T[k0 + i + 1])[p]? = _
    rw [List.getElem?_set_ne (by omega)]
    exact q4 p (by omega)
 obtain ⟨g1, g2, g3⟩ := xoQ (step := xb1 set list [.i k0]) (T.length - k0 - 1) (fun i (s : Nat × List (List Int)) => [.i s.1, .i ((i + 1 : Nat) : Int), .r s.2]) f I 2 (fun s => [.i s.1, .i (T.length - k0 : Nat), .r s.2]) hI
  (fun i s hi hIs => by
   obtain ⟨k, S⟩ := s
   obtain ⟨q1, q2, q3, q4, q5⟩ := hIs
   have q1 : k = _ := q1
   have q2 : S.length = T.length := q2
   have q4 : ∀ p, k0 + i ≤ p → S[p]? = T[p]? := q4
   have hj : k0 + i + 1 < T.length := by omega
   have hdl := xel T (k0 + i + 1) (by omega) (by omega)
   have e1 : T.getD (k0 + (i + 1)) [] = T[k0 + i + 1] := xbO (i := k0 + i + 1) hj
   have e2 : T.getD (k0 + i) [] = T[k0 + i] := xbO (by omega)
   have s1 : S.getD (k0 + i + 1) [] = T[k0 + i + 1] := by rw [List.getD_eq_getElem?_getD, q4 _ (by omega), List.getElem?_eq_getElem hj]; rfl
   have s2 : S.getD (k0 + i) [] = T[k0 + i] := by rw [List.getD_eq_getElem?_getD, q4 _ (by omega), List.getElem?_eq_getElem (by omega)]; rfl
   have hw1 : IntKind.i64.wrap (((i + 1 : Nat) : Int) - 1) = ((i : Nat) : Int) := by rw [xgl (by omega)]; omega
   have hw2 : IntKind.i64.wrap ((k : Int) + 1) = ((k + 1 : Nat) : Int) := xeo (by omega)
   have hw3 : IntKind.i64.wrap (((i + 1 : Nat) : Int) + 1) = ((i + 1 + 1 : Nat) : Int) := xeo (by omega)
   unfold xb1 xlH xiw xgk xcQ xfd
   rw [hT]
   simp only [gi_z, gi_1, gr_2, gr_1, gr_z, xas, shI, loN, Int.toNat_natCast, hw1, hw2, hw3]
   rw [decide_eq_true (by omega), cond_true, xaa (by omega), xaa (by unfold inR; omega), xaa (by omega), xaa (by unfold inR; omega)]
   rw [show ((k0 : Int) + ((i + 1 : Nat) : Int)).toNat = k0 + i + 1 by omega, show ((k0 : Int) + ((i : Nat) : Int)).toNat = k0 + i by omega, s1, s2]
   have hq := xuf (h3at (k0 + i + 1) hj) (h3at (k0 + i) (by omega))
   rw [hq]
   show _ = some (0, [U.i (f i (k, S)).1, U.i ((i + 1 + 1 : Nat) : Int), U.r (f i (k, S)).2])
   have ef : f i (k, S) = if T.getD (k0 + (i + 1)) [] = T.getD (k0 + i) [] then (k, S) else (k + 1, S.set k (T.getD (k0 + (i + 1)) [])) := rfl
   rw [ef, e1, e2]
   by_cases h : T[k0 + i + 1] = T[k0 + i]
   ·rw [if_pos h, decide_eq_true h]; rfl
   ·rw [if_neg h, decide_eq_false h]
    simp only [Bool.not_false, cond_true]
    rw [xaa (by omega), xaa (by unfold inR; omega), xaa (by unfold inR; omega), xaa (by unfold inR; omega), xzA]
    rw [xqS (a := [col T[k0 + i + 1] 0, col T[k0 + i + 1] 1, col T[k0 + i + 1] 2]) (b := T[k0 + i + 1]) rfl (h3at _ hj) rfl rfl rfl])
  (fun s hIs => by
   obtain ⟨k, S⟩ := s
   unfold xb1 xiw
   rw [hT]
   simp only [gi_z, gi_1, gr_2, gr_1, gr_z, xas, loN, Int.toNat_natCast]
   rw [decide_eq_false (by omega), cond_false, show T.length - k0 - 1 + 1 = T.length - k0 by omega]) (s := (k0, T))
  ⟨by rw [Nat.add_zero, hd, List.length_take]; show k0 = _; omega, rfl, by rw [Nat.add_zero, hd], fun p _ => rfl, Nat.le_refl _⟩
 have ei : xcD set list [.i k0] = [.i k0, .i ((0 + 1 : Nat) : Int), .r T] := by
  unfold xcD
  rw [hT]; rfl
 unfold xap
 rw [ei]
 refine ⟨g1, _, _, g2, ?_, g3.2.1, ?_⟩
 ·have := g3.1
  rw [this]
  rw [show k0 + (T.length - k0 - 1) + 1 = T.length by omega]
  exact (xel T T.length (by omega) (Nat.le_refl _)).1
 ·have := g3.2.2.1
  rw [show k0 + (T.length - k0 - 1) + 1 = T.length by omega, List.take_length] at this
  exact this
theorem xz9 {set : Int} {list T : List (List Int)} (hT : xaM 3 [0, 1, 2] (gr (xam set list).snd 1) = T) (h3 : ∀ x ∈ T, x.length = 3) (h2 : 2 ≤ T.length) (hlen : T.length ≤ 10000000) :
  xaH (xb2 set list) (xfe set list) ∧
  (((xbi set list).1 = 1 ∧ 0 ≤ gi (xbi set list).2 0 ∧ gi (xbi set list).2 0 ≤ ((gr (xbi set list).2 1).length : Int) ∧ (gr (xbi set list).2 1).take (gi (xbi set list).2 0).toNat = ddR T) ∨ ((xbi set list).1 = 3 ∧ ddR T = T)) := by
 have h3at : ∀ j (hj : j < T.length), T[j].length = 3 := fun j hj => h3 _ (List.getElem_mem hj)
 refine xxM (step := xb2 set list) (T.length - 1) (fun i xs => xs = [.i ((i + 1 : Nat) : Int)] ∧ ∀ j (hj : j < T.length), 0 < j → j < i + 1 → T[j] ≠ T[j - 1])
  (fun r => (r.1 = 1 ∧ 0 ≤ gi r.2 0 ∧ gi r.2 0 ≤ ((gr r.2 1).length : Int) ∧ (gr r.2 1).take (gi r.2 0).toNat = ddR T) ∨ (r.1 = 3 ∧ ddR T = T)) (fun i xs hi hinv => ?_) (fun xs hinv => ?_) ⟨rfl, fun j hj h0 h1 => by omega⟩
 ·obtain ⟨rfl, hne⟩ := hinv
  have hj : i + 1 < T.length := by omega
  have hw1 : IntKind.i64.wrap (((i + 1 : Nat) : Int) - 1) = ((i : Nat) : Int) := by rw [xgl (by omega)]; omega
  have hw3 : IntKind.i64.wrap (((i + 1 : Nat) : Int) + 1) = ((i + 1 + 1 : Nat) : Int) := xeo (by omega)
  have hstep : xb2 set list [.i ((i + 1 : Nat) : Int)] = bif decide (T[i + 1] = T[i]) then xae ((0 : Int) ≤ ((i + 1 : Nat) : Int) ∧ ((i + 1 : Nat) : Int) ≤ (T.length : Int)) (xae ((xaH (xb1 set list [.i ((i + 1 : Nat) : Int)]) (xcD set list [.i ((i + 1 : Nat) : Int)]))) (xae (((0 : Int) ≤ gi (xap set list [.i ((i + 1 : Nat) : Int)]).snd 0) ∧ (gi (xap set list [.i ((i + 1 : Nat) : Int)]).snd 0 ≤ (↑(gr (xap set list [.i ((i + 1 : Nat) : Int)]).snd 2).length : Int))) (xae (((↑(loN (xas (↑(gr (xap set list [.i ((i + 1 : Nat) : Int)]).snd 2).length : Int) (some (gi (xap set list [.i ((i + 1 : Nat) : Int)]).snd 0)) none).snd.fst) : Int) ≤ (xb0 set list [.i ((i + 1 : Nat) : Int)])) ∧ ((xb0 set list [.i ((i + 1 : Nat) : Int)]) ≤ (↑(gr (xap set list [.i ((i + 1 : Nat) : Int)]).snd 2).length : Int))) (xae (((0 : Int) ≤ gi (xap set list [.i ((i + 1 : Nat) : Int)]).snd 0) ∧ (gi (xap set list [.i ((i + 1 : Nat) : Int)]).snd 0 ≤ (↑((xdJ set list [.i ((i + 1 : Nat) : Int)]) ++ List.drop ((xb0 set list [.i ((i + 1 : Nat) : Int)])).toNat (gr (xap set list [.i ((i + 1 : Nat) : Int)]).snd 2)).length : Int))) (some (1, [U.i ((xhn set list [.i ((i + 1 : Nat) : Int)])), U.r ((xdJ set list [.i ((i + 1 : Nat) : Int)]) ++ List.drop ((xb0 set list [.i ((i + 1 : Nat) : Int)])).toNat (gr (xap set list [.i ((i + 1 : Nat) : Int)]).snd 2))])))))) else some (0, [U.i ((i + 1 + 1 : Nat) : Int)]) := by
   unfold xb2 xlK xlJ xlI
   rw [hT]
   simp only [gi_z, hw1, hw3]
   rw [decide_eq_true (by omega), cond_true, xaa (xa0 hj), xaa (xa0 hj), xaa (xa0 (by omega)), xaa (xa0 (by omega)), xbl hj, xbl (show i < T.length by omega), xuf (h3at _ hj) (h3at _ (by omega))]
  by_cases h : T[i + 1] = T[i]
  ·right
   have hd : ddR (T.take (i + 1 + 1)) = T.take (i + 1) := by
    rw [xob (by omega) hj, if_pos (by simpa using h)]
    exact xru (i + 1) (by omega) (by omega) hne
   obtain ⟨g1, k, S, g2, g3, g4, g5⟩ := xz8 hT h3 (by omega) hj hlen hd
   refine ⟨0, [.i k, .r (S.take k ++ List.replicate (S.length - k) [0, 0, 0] ++ S.drop S.length)], ?_, .inl ⟨rfl, ?_, ?_, ?_⟩⟩
   ·rw [hstep, decide_eq_true h, cond_true, xaa (by omega), xaa g1]
    unfold xhn xdJ xkr xb0
    rw [g2]
    simp only [gi_z, gr_2, gr_1, gr_z, xas, loN, Option.getD_some, Int.toNat_natCast]
    rw [xaa (by omega), xaa (by omega), xaa (by simp; omega)]
   ·rw [gi_z]; omega
   ·rw [gi_z, gr_1, gr_z]; simp; omega
   ·rw [gi_z, gr_1, gr_z, Int.toNat_natCast, List.append_assoc, List.take_append_of_le_length (by simp; omega), List.take_take, Nat.min_self, g5]
  ·left
   refine ⟨[.i ((i + 1 + 1 : Nat) : Int)], ?_, rfl, fun j hj' h0 h1 => ?_⟩
   ·rw [hstep, decide_eq_false h]; rfl
   ·by_cases e : j = i + 1
    ·subst e; simpa using h
    ·exact hne j hj' h0 (by omega)
 ·obtain ⟨rfl, hne⟩ := hinv
  refine ⟨2, [.i ((T.length - 1 + 1 : Nat) : Int)], ?_, .inr ⟨rfl, ?_⟩⟩
  ·unfold xb2
   rw [hT]
   simp only [gi_z]
   rw [decide_eq_false (by omega)]; rfl
  ·have := xru T.length (by omega) (Nat.le_refl _) (fun j hj h0 h1 => hne j hj h0 (by omega))
   rwa [List.take_length] at this
theorem xz7 {m : Nat} (hm : m < 512) {list : List (List Int)} (hs : xcK list) (hl : list.length ≤ 1000000) : xdg m list ∧ xaL m list = byF m list := by
 obtain ⟨a1, _⟩ := xyC hm list
 obtain ⟨b1, b2⟩ := xAa hm hs hl
 have hraw : (xhv m list).length ≤ 1000009 := by
  unfold xhv
  rw [List.length_append, List.length_map, List.length_map]
  have h1 : ((List.range 9).filter m.testBit).length ≤ 9 := Nat.le_trans (List.length_filter_le _ _) (by simp)
  have h2 := List.length_filter_le (fun g => !cov m g) list
  omega
 have hT : xaM 3 [0, 1, 2] (gr (xam m list).snd 1) = xeY (leL [0, 1, 2]) (xhv m list) := by
  rw [b2]
  unfold xaM
  rw [xxL (xmX m list)]
 have h3 : ∀ x ∈ xeY (leL [0, 1, 2]) (xhv m list), x.length = 3 := fun x hx => xmX m list x (xoV.1 hx)
 have hTl : (xeY (leL [0, 1, 2]) (xhv m list)).length = (xhv m list).length := xef _
 unfold xdg xaL xkp xkq
 rw [hT]
 have key : (xeY (leL [0, 1, 2]) (xhv m list)).length < 2 → ddR (xeY (leL [0, 1, 2]) (xhv m list)) = xeY (leL [0, 1, 2]) (xhv m list) := by
  intro h
  generalize xeY (leL [0, 1, 2]) (xhv m list) = T at *
  match T, h with
  | [], _ => rfl
  | [x], _ => rfl
 by_cases h2 : (xeY (leL [0, 1, 2]) (xhv m list)).length < 2
 ·refine ⟨⟨a1, b1, by rw [b2]; omega, fun h => ?_⟩, ?_⟩
  ·rw [decide_eq_true (by omega)] at h; cases h
  ·rw [decide_eq_true (by omega), cond_true]
   exact (key h2).symm
 ·obtain ⟨c1, c2⟩ := xz9 hT h3 (by omega) (by omega)
  rw [decide_eq_false (by omega), cond_false]
  rcases c2 with ⟨d1, d2, d3, d4⟩ | ⟨d1, d2⟩
  ·refine ⟨⟨a1, b1, by rw [b2]; omega, fun _ => ⟨c1, fun _ => ⟨d2, d3⟩⟩⟩, ?_⟩
   rw [d1]
   exact d4
  ·refine ⟨⟨a1, b1, by rw [b2]; omega, fun _ => ⟨c1, fun h => by rw [d1] at h; cases h⟩⟩, ?_⟩
   rw [d1]
   exact d2.symm
theorem xwz {l : List (List Int)} (h3 : ∀ x ∈ l, x.length = 3) : ∀ x ∈ l, ∀ y ∈ l, leL [0, 1, 2] x y = true → leL [0, 1, 2] y x = true → x = y := fun x hx y hy h1 h2 => by
 have := xn4 _ _ _ h1 h2
 exact xqS (h3 x hx) (h3 y hy) (this 0 (by simp)) (this 1 (by simp)) (this 2 (by simp))
theorem xrD (m : Nat) (list : List (List Int)) : (byF m list).Pairwise (fun a b => leL [0, 1, 2] b a = false) ∧ ∀ x, x ∈ byF m list ↔ x ∈ xhv m list := by
 have h3 : ∀ x ∈ xeY (leL [0, 1, 2]) (xhv m list), x.length = 3 := fun x hx => xmX m list x (xoV.1 hx)
 obtain ⟨h1, h2⟩ := xxX (xg2 (xed _) (xec _) (xhv m list)) (xwz h3)
 exact ⟨h1, fun x => by rw [show byF m list = ddR (xeY (leL [0, 1, 2]) (xhv m list)) from rfl, h2, xoV]⟩
end Go.Proofs.YtikhnofbbcmpeaaGreat
set_option linter.unusedVariables false
set_option maxRecDepth 100000
namespace Go.Proofs.YtikhnofbbcmpeaaGreat
open Go Go.Sy
theorem xuP (x y : List Int) : cfO x y < 0 ↔ leL [0, 1, 2] y x = false := by
 have := xtN x y
 constructor
 ·intro h; rw [decide_eq_true h] at this; simpa using this.symm
 ·intro h; rw [h] at this; simpa using this
theorem xrA (x y : List Int) : cfO x y = 0 ↔ (col x 0 = col y 0 ∧ col x 1 = col y 1 ∧ col x 2 = col y 2) := by
 show cfO x y = 0 ↔ (x.getD 0 0 = y.getD 0 0 ∧ x.getD 1 0 = y.getD 1 0 ∧ x.getD 2 0 = y.getD 2 0)
 unfold cfO
 rw [(xgv _ _ _ _ _ _).2]
 simp only [cmpC, orL]
 generalize x.getD 0 0 = a
 generalize x.getD 1 0 = b
 generalize x.getD 2 0 = c
 generalize y.getD 0 0 = d
 generalize y.getD 1 0 = e
 generalize y.getD 2 0 = f
 have one : ∀ u v : Int, (if u < v then (-1 : Int) else if v < u then 1 else 0) = 0 ↔ u = v := fun u v => by
  by_cases h1 : u < v
  ·rw [if_pos h1]; omega
  ·rw [if_neg h1]
   by_cases h2 : v < u
   ·rw [if_pos h2]; omega
   ·rw [if_neg h2]; omega
 by_cases h1 : (if a < d then (-1 : Int) else if d < a then 1 else 0) = 0
 ·rw [if_pos h1]
  by_cases h2 : (if b < e then (-1 : Int) else if e < b then 1 else 0) = 0
  ·rw [if_pos h2]
   by_cases h3 : (if c < f then (-1 : Int) else if f < c then 1 else 0) = 0
   ·rw [if_pos h3]
    exact ⟨fun _ => ⟨(one _ _).1 h1, (one _ _).1 h2, (one _ _).1 h3⟩, fun _ => rfl⟩
   ·rw [if_neg h3]
    exact ⟨fun h => absurd h h3, fun h => absurd ((one _ _).2 h.2.2) h3⟩
  ·rw [if_neg h2]
   exact ⟨fun h => absurd h h2, fun h => absurd ((one _ _).2 h.2.1) h2⟩
 ·rw [if_neg h1]
  exact ⟨fun h => absurd h h1, fun h => absurd ((one _ _).2 h.1) h1⟩
noncomputable def cmpL : List (List Int) → List (List Int) → Int
 | [], [] => 0
 | [], _ :: _ => -1
 | _ :: _, [] => 1
 | x :: r, y :: r' => if cfO x y = 0 then cmpL r r' else cfO x y
noncomputable def xey (x b : List (List Int)) : Bool := decide (x.length < b.length) || (x.length == b.length && decide (cmpL x b < 0))
theorem xuN : ∀ x, cmpL x x = 0
 | [] => rfl
 | x :: r => by
  unfold cmpL
  rw [if_pos ((xrA x x).2 ⟨rfl, rfl, rfl⟩)]
  exact xuN r
theorem xtO {x x' y : List Int} (h : cfO x x' = 0) : cfO x y = cfO x' y := by
 obtain ⟨h0, h1, h2⟩ := (xrA x x').1 h
 have h0 : x.getD 0 0 = x'.getD 0 0 := h0
 have h1 : x.getD 1 0 = x'.getD 1 0 := h1
 have h2 : x.getD 2 0 = x'.getD 2 0 := h2
 unfold cfO
 rw [h0, h1, h2]
theorem xpf {x y y' : List Int} (h : cfO y y' = 0) : cfO x y = cfO x y' := by
 obtain ⟨h0, h1, h2⟩ := (xrA y y').1 h
 have h0 : y.getD 0 0 = y'.getD 0 0 := h0
 have h1 : y.getD 1 0 = y'.getD 1 0 := h1
 have h2 : y.getD 2 0 = y'.getD 2 0 := h2
 unfold cfO
 rw [h0, h1, h2]
theorem xwu {x y z : List Int} (h : leL [0, 1, 2] y x = false) (k : leL [0, 1, 2] z y = false) : leL [0, 1, 2] z x = false := by
 have le_ne : ∀ {a b : List Int}, leL [0, 1, 2] a b = false → leL [0, 1, 2] b a = true := fun {a b} h => (xed _ a b).resolve_left (by simp [h])
 cases hz : leL [0, 1, 2] z x with
 | false => rfl
 | true =>
  have := xec _ _ _ _ hz (le_ne h)
  rw [k] at this
  cases this
theorem xqt : ∀ {x y z : List (List Int)}, x.length = y.length → y.length = z.length → cmpL x y < 0 → cmpL y z < 0 → cmpL x z < 0
 | [], [], [], _, _, h, _ => by simp [cmpL] at h
 | x :: r, y :: r', z :: r'', h1, h2, h, k => by
  unfold cmpL at h k ⊢
  by_cases e1 : cfO x y = 0
  ·rw [if_pos e1] at h
   by_cases e2 : cfO y z = 0
   ·rw [if_pos e2] at k
    rw [if_pos ((xpf e2).symm.trans e1)]
    exact xqt (by simpa using h1) (by simpa using h2) h k
   ·rw [if_neg e2] at k
    have e3 : cfO x z = cfO y z := xtO e1
    rw [e3, if_neg e2]; exact k
  ·rw [if_neg e1] at h
   by_cases e2 : cfO y z = 0
   ·have e3 : cfO x y = cfO x z := xpf e2
    rw [← e3, if_neg e1]; exact h
   ·rw [if_neg e2] at k
    have e3 := (xuP x z).2 (xwu ((xuP x y).1 h) ((xuP y z).1 k))
    rw [if_neg (by omega)]; exact e3
 | [], [], _ :: _, _, h, _, _ => by simp at h
 | [], _ :: _, _, h, _, _, _ => by simp at h
 | _ :: _, [], _, h, _, _, _ => by simp at h
 | _ :: _, _ :: _, [], _, h, _, _ => by simp at h
theorem xnw {x y z : List (List Int)} (h : xey x y = true) (k : xey y z = true) : xey x z = true := by
 unfold xey at *
 simp only [Bool.or_eq_true, Bool.and_eq_true, decide_eq_true_eq, beq_iff_eq] at *
 rcases h with h | ⟨h1, h2⟩ <;> rcases k with k | ⟨k1, k2⟩
 ·left; omega
 ·left; omega
 ·left; omega
 ·right; exact ⟨by omega, xqt h1 k1 h2 k2⟩
theorem xvH (x : List (List Int)) : xey x x = false := by
 unfold xey
 rw [xuN]
 simp
def allF (list : List (List Int)) : Nat := list.foldl (fun a g => if col g 3 != 0 then a ||| 2 ^ (col g 0).toNat else a) 0
theorem xt3 : ∀ (list : List (List Int)) (a : Nat), xcK list → a < 512 → (list.foldl (fun a g => if col g 3 != 0 then a ||| 2 ^ (col g 0).toNat else a) a) < 512 ∧ ∀ k, (list.foldl (fun a g => if col g 3 != 0 then a ||| 2 ^ (col g 0).toNat else a) a).testBit k = (a.testBit k || list.any fun g => col g 3 != 0 && decide ((col g 0).toNat = k))
 | [], a, _, ha => ⟨ha, fun k => by simp⟩
 | g :: r, a, hs, ha => by
  obtain ⟨q1, q2⟩ := hs g List.mem_cons_self
  have hr : xcK r := fun x hx => hs x (List.mem_cons_of_mem _ hx)
  rw [List.foldl_cons]
  cases h3 : (col g 3 != 0) with
  | false =>
   rw [if_neg (by decide)]
   obtain ⟨g1, g2⟩ := xt3 r a hr ha
   refine ⟨g1, fun k => ?_⟩
   rw [g2, List.any_cons, h3, Bool.false_and, Bool.false_or]
  | true =>
   rw [if_pos rfl]
   have hlt : a ||| 2 ^ (col g 0).toNat < 512 := Nat.or_lt_two_pow (n := 9) ha (Nat.pow_lt_pow_right (by omega) (by omega))
   obtain ⟨g1, g2⟩ := xt3 r _ hr hlt
   refine ⟨g1, fun k => ?_⟩
   rw [g2, List.any_cons, h3, Bool.true_and, Nat.testBit_or, Nat.testBit_two_pow, Bool.or_assoc]
theorem xuU {list : List (List Int)} (hs : xcK list) : allF list < 512 ∧ ∀ k, (allF list).testBit k = list.any fun g => col g 3 != 0 && decide ((col g 0).toNat = k) := by
 obtain ⟨h1, h2⟩ := xt3 list 0 hs (by omega)
 refine ⟨h1, fun k => ?_⟩
 have := h2 k
 rw [Nat.zero_testBit, Bool.false_or] at this
 exact this
theorem xzn {list : List (List Int)} (hs : xcK list) (hl : list.length ≤ 1000000) : xaH (xbd list) (xdR list) ∧ gi (xdp list).snd 0 = ((allF list : Nat) : Int) := by
 have hin : ∀ (l : List (List Int)) (a : Nat), xcK l → a < 512 → runL (fun (s : Nat) x => .inl (if col x 3 != 0 then s ||| 2 ^ (col x 0).toNat else s)) a l = (.inl (l.foldl (fun a g => if col g 3 != 0 then a ||| 2 ^ (col g 0).toNat else a) a) : Nat ⊕ (Nat × List U)) := fun l a _ _ => xgY _ l a
 obtain ⟨h1, h2⟩ := xdE (step := xbd list) list (fun i (s : Nat) => [.i (s : Int), .i i]) (fun s x => .inl (if col x 3 != 0 then s ||| 2 ^ (col x 0).toNat else s)) (fun i s => s < 512) (fun s => (2, [.i (s : Int), .i list.length])) 0
  (fun i s hi _ hI => by
   obtain ⟨q1, q2⟩ := hs _ (List.getElem_mem hi)
   refine ⟨?_, fun s' hs' => ?_⟩
   ·unfold xbd
    simp only [gi_z, gi_1, dlt hi, xaa (xa0 hi), xeo (show i < 9223372036854775807 by omega), xbl hi]
    generalize hx : list[i] = x at *
    rw [xaa q1]
    have hb := xzE hI (show (col x 0).toNat < 9 by omega)
    rw [Int.toNat_of_nonneg q1] at hb
    have hb' : bOr IntKind.i64 (s : Int) (bShl IntKind.i64 1 (x.getD 0 0)) = ((s ||| 2 ^ (col x 0).toNat : Nat) : Int) := hb
    rw [hb']
    show (bif col x 3 != 0 then _ else _) = _
    cases (col x 3 != 0)
    ·rw [if_neg (by decide)]; rfl
    ·rw [if_pos rfl]; rfl
   ·cases hs'
    split
    ·exact Nat.or_lt_two_pow (n := 9) hI (Nat.pow_lt_pow_right (by omega) (by omega))
    ·exact hI)
  (fun i s hi _ => by
   have : i = list.length := by omega
   subst this
   unfold xbd
   simp only [gi_z, gi_1, dnlt]) (s := 0) (by omega)
 refine ⟨h1, ?_⟩
 have : xdp list = xaw (xbd list) [.i ((0 : Nat) : Int), .i ((0 : Nat) : Int)] := rfl
 rw [this, h2, List.drop_zero, xgY]
 exact gi_z _ _
theorem xqu : ∀ {x b : List (List Int)} {i : Nat} (hx : i < x.length) (hb : i < b.length), (∀ j (h1 : j < x.length) (h2 : j < b.length), j < i → cfO x[j] b[j] = 0) → cfO x[i] b[i] ≠ 0 → cmpL x b = cfO x[i] b[i]
 | x :: r, y :: r', 0, _, _, _, h => by
  unfold cmpL
  exact if_neg h
 | x :: r, y :: r', i + 1, hx, hb, h0, h => by
  unfold cmpL
  have e : cfO x y = 0 := h0 0 (by simp) (by simp) (by omega)
  rw [if_pos e]
  exact xqu (by simpa using hx) (by simpa using hb) (fun j h1 h2 h3 => h0 (j + 1) (by simpa using h1) (by simpa using h2) (by omega)) h
theorem xsO : ∀ {x b : List (List Int)}, x.length = b.length → (∀ j (h1 : j < x.length) (h2 : j < b.length), cfO x[j] b[j] = 0) → cmpL x b = 0
 | [], [], _, _ => rfl
 | x :: r, y :: r', hl, h0 => by
  unfold cmpL
  have e : cfO x y = 0 := h0 0 (by simp) (by simp)
  rw [if_pos e]
  exact xsO (by simpa using hl) fun j h1 h2 => h0 (j + 1) (by simpa using h1) (by simpa using h2)
theorem xw8 {list : List (List Int)} {m : Nat} {b x : List (List Int)} (hby : xaL m list = x) (hl : x.length ≤ 9223372036854775807) (hlen : x.length = b.length) :
  xaH (xbc list [.i m, .r b]) (xcd list [.i m, .r b]) ∧
  (bif (xa7 list [.i m, .r b]).fst.beq 1 then (1 : Int) else bif (xa7 list [.i m, .r b]).fst.beq 2 then gi (xa7 list [.i m, .r b]).snd 0 else (xdo list [.i m, .r b])) = cmpL x b := by
 have hs1 : xdo list [.i m, .r b] = 0 := by
  unfold xdo
  simp only [gi_z, gr_1, gr_z, hby]
  rw [decide_eq_false (by omega)]; rfl
 rw [hs1]
 obtain ⟨h1, h2⟩ := xfG (step := xbc list [.i m, .r b]) x.length (fun i => cfO (x.getD i []) (b.getD i []) != 0) (fun i => [.i 0, .i i]) (fun i => [.i (cfO (x.getD i []) (b.getD i []))]) 1 3 [.i 0, .i x.length]
  (fun i hi => by
   unfold xbc xfI
   simp only [gi_z, gi_1, gr_1, gr_z]
   rw [hby, dlt hi, xaa (xa0 hi), xaa (xa0 hi), decide_eq_false (show ¬ ((i : Int) ≥ (b.length : Int)) by omega), cond_false, xaa (xa0 (by omega)), xaa (xa0 (by omega)), xaa (xgv _ _ _ _ _ _).1, xeo (show i < 9223372036854775807 by omega), Int.toNat_natCast]
   rfl)
  (by
   unfold xbc
   simp only [gi_z, gi_1]
   rw [hby, dnlt])
 have hi : xcd list [.i m, .r b] = [.i 0, .i ((0 : Nat) : Int)] := rfl
 unfold xa7
 rw [hi]
 refine ⟨h1, ?_⟩
 rcases h2 with ⟨i, hi, hp, hn, hg⟩ | ⟨hn, hg⟩
 ·rw [hg]
  show gi [.i (cfO (x.getD i []) (b.getD i []))] 0 = _
  rw [gi_z, xbO hi, xbO (by omega)]
  refine (xqu hi (by omega) (fun j q1 q2 q3 => ?_) ?_).symm
  ·have := hn j q3
   rw [xbO q1, xbO q2] at this
   simpa using this
  ·rw [xbO hi, xbO (show i < b.length by omega)] at hp
   simpa using hp
 ·rw [hg]
  show (0 : Int) = _
  refine (xsO hlen fun j q1 q2 => ?_).symm
  have := hn j q1
  rw [xbO q1, xbO q2] at this
  simpa using this
noncomputable def xdA (list : List (List Int)) (i : Nat) (b : List (List Int)) : List (List Int) := if subB i (allF list) = true then (if xey (byF i list) b = true then byF i list else b) else b
noncomputable def fewF (list : List (List Int)) : List (List Int) := upto (xdA list) (allF list + 1) (byF 0 list)
theorem cmpI (a b : Nat) : (xaj (a : Int) (b : Int) < 0 ↔ a < b) ∧ (xaj (a : Int) (b : Int) = 0 ↔ a = b) := by
 rw [cmpC]
 by_cases h1 : a < b
 ·rw [if_pos (by omega)]; omega
 ·rw [if_neg (by omega)]
  by_cases h2 : b < a
  ·rw [if_pos (by omega)]; omega
  ·rw [if_neg (by omega)]; omega
theorem xiJ (m : Nat) (list : List (List Int)) : (byF m list).length ≤ list.length + 9 := by
 unfold byF
 have h1 : ∀ l : List (List Int), (ddR l).length ≤ l.length := fun l => by
  cases l with
  | nil => exact Nat.le_refl _
  | cons x r =>
   have := (xel (x :: r) (x :: r).length (by simp) (Nat.le_refl _)).1
   rwa [List.take_length] at this
 refine Nat.le_trans (h1 _) ?_
 rw [xef]
 unfold xhv
 rw [List.length_append, List.length_map, List.length_map]
 have h1 : ((List.range 9).filter m.testBit).length ≤ 9 := Nat.le_trans (List.length_filter_le _ _) (by simp)
 have h2 := List.length_filter_le (fun g => !cov m g) list
 omega
theorem xsD {list : List (List Int)} (hs : xcK list) (hl : list.length ≤ 1000000) : xbX list ∧ xb7 list = fewF list := by
 obtain ⟨a1, a2⟩ := xzn hs hl
 obtain ⟨hall, _⟩ := xuU hs
 obtain ⟨b1, b2⟩ := xz7 (m := 0) (by omega) hs hl
 have hw : IntKind.i64.wrap (gi (xdp list).snd 0 + 1) = ((allF list + 1 : Nat) : Int) := by rw [a2]; exact xeo (by omega)
 obtain ⟨g1, g2, _⟩ := xoQ (step := xce list) (allF list + 1) (fun i (b : List (List Int)) => [.i i, .r b]) (xdA list) (fun _ _ => True) 3 (fun b => [.i (allF list + 1 : Nat), .r b]) (fun _ _ _ _ => trivial)
  (fun i b hi _ => by
   have hi5 : i < 512 := by omega
   obtain ⟨c1, c2⟩ := xz7 hi5 hs hl
   have hxl := xiJ i list
   unfold xce
   simp only [gi_z, gr_1, gr_z]
   rw [hw, decide_eq_true (by omega), cond_true, a2, xzH hi5 hall, xeo (by omega)]
   unfold xdA
   cases hsub : subB i (allF list) with
   | false => rw [if_neg (by decide)]; rfl
   | true =>
    rw [if_pos rfl, Bool.not_true, cond_false, xaa c1, c2]
    have hloop : (decide (xaj (↑(byF i list).length : Int) (↑b.length : Int) < (0 : Int)) = false) → (((xaj (↑(byF i list).length : Int) (↑b.length : Int) == (0 : Int)) = true) → ((xaH (xbc list [.i i, .r b]) (xcd list [.i i, .r b])))) := fun _ he => by
     have := (cmpI _ _).2.1 (by simpa using he)
     exact (xw8 c2 (by omega) this).1
    rw [xaa hloop]
    have hcond : (decide (xaj (↑(byF i list).length : Int) (↑b.length : Int) < (0 : Int)) || xaj (↑(byF i list).length : Int) (↑b.length : Int) == (0 : Int) && decide ((bif (xa7 list [.i i, .r b]).fst.beq 1 then (1 : Int) else bif (xa7 list [.i i, .r b]).fst.beq 2 then gi (xa7 list [.i i, .r b]).snd 0 else (xdo list [.i i, .r b])) < (0 : Int))) = xey (byF i list) b := by
     unfold xey
     by_cases he : (byF i list).length = b.length
     ·rw [(xw8 c2 (by omega) he).2]
      have e1 : (xaj (↑(byF i list).length : Int) (↑b.length : Int) == 0) = ((byF i list).length == b.length) := by rw [(cmpI _ _).2.2 he, he]; simp
      rw [e1]
      congr 1
      exact decide_eq_decide.2 (cmpI _ _).1
     ·have e1 : (xaj (↑(byF i list).length : Int) (↑b.length : Int) == 0) = false := by
       simpa using fun h => he ((cmpI _ _).2.1 h)
      have e2 : ((byF i list).length == b.length) = false := by simpa using he
      rw [e1, e2, Bool.false_and, Bool.false_and]
      congr 1
      exact decide_eq_decide.2 (cmpI _ _).1
    rw [hcond]
    cases xey (byF i list) b
    ·rw [if_neg (by decide)]; rfl
    ·rw [if_pos rfl]; rfl)
  (fun b _ => by
   unfold xce
   simp only [gi_z, gr_1, gr_z]
   rw [hw, decide_eq_false (by omega)]; rfl) (s := byF 0 list) trivial
 have hi : xc1 list = [.i ((0 : Nat) : Int), .r (byF 0 list)] := by
  unfold xc1
  have := b2
  rw [show (xaL (0 : Int) list) = byF 0 list from this]; rfl
 unfold xbX xb7 xhV
 rw [hi]
 refine ⟨⟨a1, b1, g1⟩, ?_⟩
 rw [g2]
 show gr [.i (allF list + 1 : Nat), .r (upto (xdA list) (allF list + 1) (byF 0 list))] 1 = _
 rw [gr_1, gr_z]
 rfl
end Go.Proofs.YtikhnofbbcmpeaaGreat
set_option linter.unusedVariables false
set_option maxRecDepth 100000
namespace Go.Proofs.YtikhnofbbcmpeaaGreat
open Go Go.Sy
abbrev ALog := Int × List (List Int)
noncomputable def xwv (x : List Int) : ALog := (col x 0, decL (col x 1))
noncomputable def xaF (ships : List (List Int)) : List ALog := ships.map xwv
def xt5 (ships : List (List Int)) : Prop := ∀ x ∈ ships, (decL (col x 1)).length ≤ 9223372036854775807
def risF : Int → List ALog → Bool
 | _, [] => true
 | b, x :: r => valF x.1 x.2 && decide (b < x.1) && risF x.1 r
noncomputable def rowO (x : List Int) : List Int := [col x 0, col x 0, encL (decL (col x 1))]
def xjQ (s : Int) (logs : List ALog) : Option ALog := logs.find? fun x => x.1 == s
theorem xhc (s : Int) : ∀ ships : List (List Int), xbP 1 [s] (ships.map rowO) = (xjQ s (xaF ships)).map fun x => [x.1, encL x.2]
 | [] => rfl
 | x :: r => by
  have ih := xhc s r
  unfold xbP xjQ xaF at *
  rw [List.map_cons, List.map_cons, List.find?_cons, List.find?_cons]
  by_cases h : col x 0 = s
  ·have e1 : decide (List.take 1 (rowO x) = [s]) = true := decide_eq_true (by show [col x 0] = [s]; rw [h])
   have e2 : ((xwv x).1 == s) = true := by show (col x 0 == s) = true; rw [h]; simp
   rw [e1, e2]; rfl
  ·have e1 : decide (List.take 1 (rowO x) = [s]) = false := decide_eq_false (by show ¬ [col x 0] = [s]; simpa using h)
   have e2 : ((xwv x).1 == s) = false := by show (col x 0 == s) = false; simpa using h
   rw [e1, e2]; exact ih
noncomputable def xkl (ow t delay : Int) (s : Int × List (List Int)) (x : List Int) : (Int × List (List Int)) ⊕ (Nat × List U) :=
 if (!valF (col x 0) (decL (col x 1)) || decide (col x 0 ≤ s.1)) = true then .inr (0, [.i ow, .i t, .i delay, .r s.2]) else .inl (col x 0, putRow 1 [col x 0] [col x 0, encL (decL (col x 1))] s.2)
theorem xyj (ow t delay : Int) : ∀ (r pre : List (List Int)) (b : Int), (∀ x ∈ pre, col x 0 ≤ b) →
  (risF b (xaF r) = true → ∃ b', runL (xkl ow t delay) (b, pre.map rowO) r = .inl (b', (pre ++ r).map rowO)) ∧
  (risF b (xaF r) = false → ∃ rows, runL (xkl ow t delay) (b, pre.map rowO) r = .inr (0, [.i ow, .i t, .i delay, .r rows]))
 | [], pre, b, _ => ⟨fun _ => ⟨b, by simp [runL]⟩, fun h => by simp [xaF, risF] at h⟩
 | x :: r, pre, b, hpre => by
  have ex : xaF (x :: r) = xwv x :: xaF r := rfl
  have er : risF b (xwv x :: xaF r) = (valF (col x 0) (decL (col x 1)) && decide (b < col x 0) && risF (col x 0) (xaF r)) := rfl
  rw [ex, er]
  by_cases hv : (!valF (col x 0) (decL (col x 1)) || decide (col x 0 ≤ b)) = true
  ·have e : xkl ow t delay (b, pre.map rowO) x = .inr (0, [.i ow, .i t, .i delay, .r (pre.map rowO)]) := by unfold xkl; rw [if_pos hv]
   have hf : (valF (col x 0) (decL (col x 1)) && decide (b < col x 0)) = false := by
    rcases Bool.or_eq_true_iff.1 hv with h | h
    ·have : valF (col x 0) (decL (col x 1)) = false := by simpa using h
     rw [this]; rfl
    ·have : decide (b < col x 0) = false := decide_eq_false (by have := of_decide_eq_true h; omega)
     rw [this, Bool.and_false]
   rw [hf]
   refine ⟨(fun h => by cases h), fun _ => ⟨pre.map rowO, ?_⟩⟩
   unfold runL
   rw [e]
  ·have e0 : xkl ow t delay (b, pre.map rowO) x = .inl (col x 0, putRow 1 [col x 0] [col x 0, encL (decL (col x 1))] (pre.map rowO)) := by unfold xkl; rw [if_neg hv]
   have hv' : valF (col x 0) (decL (col x 1)) = true ∧ b < col x 0 := by
    simp only [Bool.or_eq_true, Bool.not_eq_true', decide_eq_true_eq, not_or] at hv
    exact ⟨by simpa using hv.1, by omega⟩
   have hno : (xbP 1 [col x 0] (pre.map rowO)).isSome = false := by
    rw [xhc]
    have : xjQ (col x 0) (xaF pre) = none := by
     unfold xjQ xaF
     rw [List.find?_eq_none]
     intro y hy
     obtain ⟨z, hz, rfl⟩ := List.mem_map.1 hy
     have := hpre z hz
     show ¬ (col z 0 == col x 0) = true
     intro h
     have h := eq_of_beq h
     omega
    rw [this]; rfl
   have e : xkl ow t delay (b, pre.map rowO) x = .inl (col x 0, (pre ++ [x]).map rowO) := by
    rw [e0]
    unfold putRow
    rw [hno, cond_false, List.map_append]
    rfl
   have hf : (valF (col x 0) (decL (col x 1)) && decide (b < col x 0)) = true := by rw [hv'.1, decide_eq_true hv'.2]; rfl
   rw [hf, Bool.true_and]
   obtain ⟨i1, i2⟩ := xyj ow t delay r (pre ++ [x]) (col x 0) (fun y hy => by
    rcases List.mem_append.1 hy with hy | hy
    ·have := hpre y hy; omega
    ·rw [List.mem_singleton.1 hy]; exact Int.le_refl _)
   unfold runL
   rw [e]
   refine ⟨fun h => ?_, fun h => i2 h⟩
   obtain ⟨b', hb⟩ := i1 h
   exact ⟨b', by show runL (xkl ow t delay) (col x 0, (pre ++ [x]).map rowO) r = _; rw [hb, List.append_assoc]; rfl⟩
theorem xum {ow t delay : Int} {office ships list : List (List Int)} (hs : ships.length ≤ 9223372036854775807) (hd : xt5 ships) :
  xaH (xbb ow t delay office ships list) (xb5 ow t delay office ships list) ∧
  (risF 0 (xaF ships) = true → (xao ow t delay office ships list).1.beq 1 = false ∧ gr (xao ow t delay office ships list).2 3 = ships.map rowO) ∧
  (risF 0 (xaF ships) = false → (xao ow t delay office ships list).1.beq 1 = true) := by
 obtain ⟨h1, h2⟩ := xdE (step := xbb ow t delay office ships list) ships (fun i (s : Int × List (List Int)) => [.b false, .i s.1, .i i, .r s.2]) (xkl ow t delay) (fun _ _ => True) (fun s => (2, [.b false, .i s.1, .i ships.length, .r s.2])) 0
  (fun i s hi _ _ => ⟨by
   unfold xbb xjH
   simp only [gi_2, gi_1, gi_z, gb_z, gr_3, gr_z, dlt hi, xaa (xa0 hi), xeo (show i < 9223372036854775807 by omega), xbl hi]
   have hx := hd _ (List.getElem_mem hi)
   generalize ships[i] = x at *
   obtain ⟨v1, v2⟩ := xe0 (col x 0) (decL (col x 1)) hx
   rw [xaa v1, v2]
   unfold xkl
   cases h : (!valF (col x 0) (decL (col x 1)) || decide (col x 0 ≤ s.1)) with
   | true => rw [if_pos rfl]; rfl
   | false => rw [if_neg (by decide)]; rfl, fun _ _ => trivial⟩)
  (fun i s hi _ => by
   have : i = ships.length := by omega
   subst this
   unfold xbb
   simp only [gi_2, gi_1, gi_z, gb_z, gr_3, gr_z, dnlt]) (s := (0, [])) trivial
 have hi : xb5 ow t delay office ships list = [.b false, .i 0, .i ((0 : Nat) : Int), .r []] := rfl
 unfold xao
 rw [hi]
 have g := xyj ow t delay ships [] 0 (fun x hx => by cases hx)
 simp only [List.map_nil, List.nil_append] at g
 obtain ⟨g1, g2⟩ := g
 refine ⟨h1, fun h => ?_, fun h => ?_⟩
 ·obtain ⟨b', hb⟩ := g1 h
  rw [h2, List.drop_zero, hb]
  refine ⟨rfl, ?_⟩
  show gr [.b false, .i b', .i ships.length, .r (ships.map rowO)] 3 = _
  rw [gr_3, gr_z]
 ·obtain ⟨rows, hr⟩ := g2 h
  rw [h2, List.drop_zero, hr]; rfl
def xne (logs : List ALog) (c : List Int) : Bool := !(xjQ (col c 0) logs).isSome
theorem xwg {ow t delay : Int} {office ships list : List (List Int)} (hl : list.length ≤ 9223372036854775807) (hs : ships.length ≤ 9223372036854775807) (hd : xt5 ships) (hr : risF 0 (xaF ships) = true) :
  xaH (xba ow t delay office ships list) (xcN ow t delay office ships list) ∧
  decide ((bif (xbD ow t delay office ships list).fst.beq 1 then gi (xbD ow t delay office ships list).snd 0 else (-1 : Int)) ≥ (0 : Int)) = list.any (xne (xaF ships)) := by
 have hrows := ((xum (ow := ow) (t := t) (delay := delay) (office := office) (list := list) hs hd).2.1 hr).2
 refine xir (step := xba ow t delay office ships list) (l := list) (p := xne (xaF ships)) 1 (fun i hi => ?_) ?_ rfl
 ·unfold xba
  simp only [gi_1, gi_z, dlt hi, xaa (xa0 hi), xeo (show i < 9223372036854775807 by omega), xbl hi]
  rw [show (xao ow t delay office ships list).snd = (xao ow t delay office ships list).2 from rfl, hrows, xhc]
  unfold xne
  rw [Option.isSome_map]
 ·unfold xba
  simp only [gi_1, gi_z, dnlt]
def xja (ow t delay : Int) (office : List (List Int)) (logs : List ALog) (list : List (List Int)) : Bool :=
 valF ow office && ow == 0 && chF list && tmF t && decide (0 ≤ delay) && decide (delay ≤ 100000) && risF 0 logs && !list.any (xne logs)
def xgU (ow t delay : Int) (office list : List (List Int)) : Bool := valF ow office && ow == 0 && chF list && tmF t && decide (0 ≤ delay) && decide (delay ≤ 100000)
theorem xtP (ow t delay : Int) (office : List (List Int)) (logs : List ALog) (list : List (List Int)) : xja ow t delay office logs list = (xgU ow t delay office list && risF 0 logs && !list.any (xne logs)) := rfl
theorem xrC {ow t delay : Int} {office list : List (List Int)} (ho : office.length ≤ 9223372036854775807) (hl : list.length ≤ 9223372036854775807) :
  (!xad ow office || ow != (0 : Int) || !xau list || !xar t || decide (delay < (0 : Int)) || decide (delay > (100000 : Int))) = !xgU ow t delay office list := by
 rw [(xe0 ow office ho).2, (xif list hl).2, xok]
 have e1 : decide (delay < 0) = !decide (0 ≤ delay) := by
  by_cases h : delay < 0
  ·rw [decide_eq_true h, decide_eq_false (by omega)]; rfl
  ·rw [decide_eq_false h, decide_eq_true (by omega)]; rfl
 have e2 : decide (delay > 100000) = !decide (delay ≤ 100000) := by
  by_cases h : delay > 100000
  ·rw [decide_eq_true h, decide_eq_false (by omega)]; rfl
  ·rw [decide_eq_false h, decide_eq_true (by omega)]; rfl
 rw [e1, e2]
 unfold xgU
 show (!valF ow office || !(ow == 0) || !chF list || !tmF t || !decide (0 ≤ delay) || !decide (delay ≤ 100000)) = _
 cases valF ow office <;> cases (ow == 0) <;> cases chF list <;> cases tmF t <;> cases decide (0 ≤ delay) <;> cases decide (delay ≤ 100000) <;> rfl
theorem xzy {n : Int} (h0 : -1000000000 ≤ n) (h1 : n ≤ 1000000000) : (Lit.int .i64 n).wf = true := by
 have e1 : IntKind.i64.min = -9223372036854775808 := by decide
 have e2 : IntKind.i64.max = 9223372036854775807 := by decide
 unfold Lit.wf
 simp only [e1, e2, Bool.and_eq_true, decide_eq_true_eq]
 omega
def xos (logs : List ALog) (c : List Int) : List (List Int) := ((xjQ (col c 0) logs).getD (0, [])).2
def xs9 (logs : List ALog) (tm dl : Int) (c : List Int) : Bool := decide (col c 2 + dl > tm) || (xrQ tm (xos logs c)).contains (col c 1)
def offF (logs : List ALog) (c : List Int) : Bool := decide (xtu 0 (-1) (xos logs c) < col c 2) || !onF (col c 2) true (xos logs c)
def updF (logs : List ALog) (c g : List Int) : List Int := [col g 0, col g 1, b2 (col g 2 != 0), b2 (col g 3 != 0 && offF logs c)]
def xkK (office : List (List Int)) (logs : List ALog) (tm dl : Int) (gs : List (List Int)) (c : List Int) : List (List Int) :=
 bif xs9 logs tm dl c then gs else
 bif gs.any (xeI c) then gs.map fun g => bif xeI c g then updF logs c g else g
 else gs ++ [updF logs c [col c 0, col c 1, b2 (!xu5 (col c 1) (-1) office), 1]]
def xd2 (office : List (List Int)) (logs : List ALog) (tm dl : Int) (list : List (List Int)) : List (List Int) := (xlj (list.foldl (xkK office logs tm dl) [])).map xk5
theorem xwJ (n : Int) (l : List Int) : hasN n (xcT l) = l.contains n := by
 unfold hasN xcT
 rw [List.any_map, List.contains_eq_any_beq]
 rfl
theorem xv2 : ∀ {logs : List ALog} {b : Int}, risF b logs = true → ∀ x ∈ logs, valF x.1 x.2 = true ∧ b < x.1
 | [], _, _, x, hx => by cases hx
 | y :: r, b, h, x, hx => by
  unfold risF at h
  simp only [Bool.and_eq_true, decide_eq_true_eq] at h
  rcases List.mem_cons.1 hx with rfl | hx
  ·exact h.1
  ·have := xv2 h.2 x hx
   exact ⟨this.1, by omega⟩
theorem xrR {logs : List ALog} (h : risF 0 logs = true) (c : List Int) : (xos logs c).length ≤ 200 := by
 unfold xos xjQ
 cases hf : logs.find? fun x => x.1 == col c 0 with
 | none => simp
 | some x => exact (xyO (xv2 h x (List.mem_of_find?_eq_some hf)).1).1
theorem xn8 (ships : List (List Int)) (c : List Int) : gSl (ships.map rowO) c = xos (xaF ships) c := by
 unfold gSl xzl xos
 rw [xhc]
 cases xjQ (c.getD 0 0) (xaF ships) with
 | none => exact xeQ _
 | some x => exact xeQ _
theorem xqw {list : List (List Int)} (h : chF list = true) : list.length ≤ 200 ∧ ∀ c ∈ list, 0 ≤ col c 2 ∧ col c 2 ≤ 10000000 ∧ 1 ≤ col c 1 ∧ col c 1 ≤ 10000 ∧ 1 ≤ col c 0 ∧ col c 0 ≤ 8 := by
 unfold chF at h
 simp only [Bool.and_eq_true, decide_eq_true_eq, Bool.not_eq_true'] at h
 refine ⟨h.1, fun c hc => ?_⟩
 have := List.any_eq_false.1 h.2 c hc
 unfold badC tmF itF at this
 simp only [Bool.not_eq_true, Bool.or_eq_false_iff, Bool.not_eq_false', Bool.and_eq_true, decide_eq_true_eq, decide_eq_false_iff_not] at this
 omega
theorem xtE {ow t delay : Int} {office ships list : List (List Int)} (ho : office.length ≤ 9223372036854775807) (hc : xgU ow t delay office list = true) (hr : risF 0 (xaF ships) = true) :
  xcI ow t delay office (ships.map rowO) list ∧ xal ow t delay office (ships.map rowO) list = xd2 office (xaF ships) t delay list := by
 unfold xgU at hc
 simp only [Bool.and_eq_true, decide_eq_true_eq] at hc
 obtain ⟨⟨⟨⟨⟨hv, h0⟩, hch⟩, htm⟩, hd0⟩, hd1⟩ := hc
 obtain ⟨hlen, hcs⟩ := xqw hch
 have eskip : ∀ c ∈ list, xpR (ships.map rowO) t delay c = xs9 (xaF ships) t delay c ∧ GPre office (ships.map rowO) ow t delay c := by
  intro c hc
  obtain ⟨q1, q2, q3, q4, q5, q6⟩ := hcs c hc
  have hsl := xrR hr c
  have hsh := xua (gSo (ships.map rowO) c) t (xos (xaF ships) c) (by omega)
  have hcn := xtL (col c 1) (xcT (xrQ t (xos (xaF ships) c))) (by
   have h1 := xr6 (xkM t (xos (xaF ships) c))
   have h2 := xjf t (xos (xaF ships) c)
   unfold xcT xrQ
   rw [List.length_map]
   omega)
  have elate : xwX t delay c = decide (col c 2 + delay > t) := by
   unfold xwX
   have q1' : 0 ≤ c.getD 2 0 := q1
   have q2' : c.getD 2 0 ≤ 10000000 := q2
   rw [xgl (by omega)]
  have e : xpR (ships.map rowO) t delay c = xs9 (xaF ships) t delay c := by
   unfold xpR xs9
   rw [elate, xn8, hsh.2]
   congr 1
   exact hcn.2.trans (xwJ _ _)
  refine ⟨e, ⟨xzy (n := col c 0) (by omega) (by omega), xzy (n := col c 1) (by omega) (by omega), fun _ => ?_, fun _ => ?_⟩⟩
  ·rw [xn8]
   exact ⟨hsh.1, by rw [hsh.2]; exact hcn.1⟩
  ·rw [xn8]
   exact ⟨(xqN _ _ _ office ho).1, (xtt _ _ (by omega)).1, (xwi _ _ _ (by omega)).1⟩
 refine ⟨⟨by omega, fun c hc => (eskip c hc).2⟩, ?_⟩
 unfold xal xd2
 congr 2
 have key : ∀ (l : List (List Int)) (gs : List (List Int)), (∀ c ∈ l, c ∈ list) → l.foldl (xk4 office (ships.map rowO) ow t delay) gs = l.foldl (xkK office (xaF ships) t delay) gs := by
  intro l
  induction l with
  | nil => intro gs _; rfl
  | cons c r ih =>
   intro gs hl
   rw [List.foldl_cons, List.foldl_cons]
   have hcm := hl c List.mem_cons_self
   have hsl := xrR hr c
   have e : xk4 office (ships.map rowO) ow t delay gs c = xkK office (xaF ships) t delay gs c := by
    have eu : ∀ g, gUpd (ships.map rowO) c g = updF (xaF ships) c g := fun g => by
     unfold gUpd updF offF
     rw [xn8, (xtt _ _ (by omega)).2.1, (xwi _ _ _ (by omega)).2]
    unfold xk4 xkK
    rw [(eskip c hcm).1, (xqN _ _ _ office ho).2]
    simp only [eu]
   rw [e]
   exact ih _ fun x hx => hl x (List.mem_cons_of_mem _ hx)
 exact key list [] fun c h => h
end Go.Proofs.YtikhnofbbcmpeaaGreat
set_option linter.unusedVariables false
set_option maxRecDepth 100000
namespace Go.Proofs.YtikhnofbbcmpeaaGreat
open Go Go.Sy
abbrev Key := Int × Int
def kOf (g : List Int) : Key := (col g 0, col g 1)
def ltK (a b : Key) : Prop := a.1 < b.1 ∨ (a.1 = b.1 ∧ a.2 < b.2)
def cntF (logs : List ALog) (tm dl : Int) (c : List Int) : Bool := !xs9 logs tm dl c
def mkG (office : List (List Int)) (logs : List ALog) (tm dl : Int) (list : List (List Int)) (k : Key) : List Int :=
 [k.1, k.2, b2 (!xu5 k.2 (-1) office), b2 (list.all fun c => !(cntF logs tm dl c && decide (kOf c = k)) || offF logs c)]
theorem b2_b (b : Bool) : b2 (b2 b != 0) = b2 b := by cases b <;> rfl
theorem xmK (c g : List Int) : xeI c g = decide (kOf c = kOf g) := by
 unfold xeI kOf
 by_cases h : (col c 0, col c 1) = (col g 0, col g 1)
 ·rw [decide_eq_true h]
  obtain ⟨h1, h2⟩ := Prod.mk.inj h
  rw [show g.getD 0 0 = c.getD 0 0 from h1.symm, show g.getD 1 0 = c.getD 1 0 from h2.symm]
  simp
 ·rw [decide_eq_false h]
  cases hb : (g.getD 0 0 == c.getD 0 0 && g.getD 1 0 == c.getD 1 0) with
  | false => rfl
  | true =>
   rw [Bool.and_eq_true, beq_iff_eq, beq_iff_eq] at hb
   exact absurd (Prod.ext hb.1.symm hb.2.symm) h
theorem xlS (office : List (List Int)) (logs : List ALog) (tm dl : Int) : ∀ (r done : List (List Int)) (ks : List Key), ks.Nodup → (∀ k, k ∈ ks ↔ ∃ c ∈ done, cntF logs tm dl c = true ∧ kOf c = k) →
  ∃ ks' : List Key, ks'.Nodup ∧ (∀ k, k ∈ ks' ↔ ∃ c ∈ done ++ r, cntF logs tm dl c = true ∧ kOf c = k) ∧ r.foldl (xkK office logs tm dl) (ks.map (mkG office logs tm dl done)) = ks'.map (mkG office logs tm dl (done ++ r))
 | [], done, ks, hn, hk => ⟨ks, hn, by simpa using hk, by simp⟩
 | c :: r, done, ks, hn, hk => by
  rw [List.foldl_cons]
  have emk : ∀ k, cntF logs tm dl c = false ∨ kOf c ≠ k → mkG office logs tm dl (done ++ [c]) k = mkG office logs tm dl done k := fun k h => by
   unfold mkG
   have : (!(cntF logs tm dl c && decide (kOf c = k)) || offF logs c) = true := by
    rcases h with h | h
    ·rw [h]; rfl
    ·rw [decide_eq_false h, Bool.and_false]; rfl
   rw [List.all_append, List.all_cons, List.all_nil, this, Bool.true_and, Bool.and_true]
  cases hs : xs9 logs tm dl c with
  | true =>
   have hc : cntF logs tm dl c = false := by unfold cntF; rw [hs]; rfl
   have e : xkK office logs tm dl (ks.map (mkG office logs tm dl done)) c = ks.map (mkG office logs tm dl (done ++ [c])) := by
    unfold xkK
    rw [hs, cond_true]
    exact List.map_congr_left fun k _ => (emk k (.inl hc)).symm
   rw [e]
   have hk' : ∀ k, k ∈ ks ↔ ∃ x ∈ done ++ [c], cntF logs tm dl x = true ∧ kOf x = k := fun k => by
    rw [hk]
    constructor
    ·rintro ⟨x, hx, h⟩; exact ⟨x, List.mem_append.2 (.inl hx), h⟩
    ·rintro ⟨x, hx, h⟩
     rcases List.mem_append.1 hx with hx | hx
     ·exact ⟨x, hx, h⟩
     ·rw [List.mem_singleton.1 hx, hc] at h
      cases h.1
   have := xlS office logs tm dl r (done ++ [c]) ks hn hk'
   simpa [List.append_assoc] using this
  | false =>
   have hc : cntF logs tm dl c = true := by unfold cntF; rw [hs]; rfl
   have hkey : ∀ k, kOf (mkG office logs tm dl done k) = k := fun k => rfl
   have hany : (ks.map (mkG office logs tm dl done)).any (xeI c) = decide (kOf c ∈ ks) := by
    rw [List.any_map]
    by_cases h : kOf c ∈ ks
    ·rw [decide_eq_true h, List.any_eq_true]
     exact ⟨kOf c, h, by show xeI c (mkG office logs tm dl done (kOf c)) = true; rw [xmK, hkey]; exact decide_eq_true rfl⟩
    ·rw [decide_eq_false h, List.any_eq_false]
     intro k hk'
     show ¬ xeI c (mkG office logs tm dl done k) = true
     rw [xmK, hkey]
     intro h'
     exact h ((of_decide_eq_true h') ▸ hk')
   by_cases hin : kOf c ∈ ks
   ·have e : xkK office logs tm dl (ks.map (mkG office logs tm dl done)) c = ks.map (mkG office logs tm dl (done ++ [c])) := by
     unfold xkK
     rw [hs, cond_false, hany, decide_eq_true hin, cond_true, List.map_map]
     refine List.map_congr_left fun k _ => ?_
     show (bif xeI c (mkG office logs tm dl done k) then updF logs c (mkG office logs tm dl done k) else mkG office logs tm dl done k) = _
     rw [xmK, hkey]
     by_cases h : kOf c = k
     ·rw [decide_eq_true h, cond_true]
      show [k.1, k.2, b2 (b2 (!xu5 k.2 (-1) office) != 0), b2 (b2 (done.all fun c => !(cntF logs tm dl c && decide (kOf c = k)) || offF logs c) != 0 && offF logs c)] = _
      rw [b2_b, xAb]
      unfold mkG
      rw [List.all_append, List.all_cons, List.all_nil, hc, decide_eq_true h, Bool.and_true]
      rfl
     ·rw [decide_eq_false h, cond_false]
      exact (emk k (.inr h)).symm
    rw [e]
    have hk' : ∀ k, k ∈ ks ↔ ∃ x ∈ done ++ [c], cntF logs tm dl x = true ∧ kOf x = k := fun k => by
     constructor
     ·intro h
      obtain ⟨x, hx, h⟩ := (hk k).1 h
      exact ⟨x, List.mem_append.2 (.inl hx), h⟩
     ·rintro ⟨x, hx, h⟩
      rcases List.mem_append.1 hx with hx | hx
      ·exact (hk k).2 ⟨x, hx, h⟩
      ·rw [List.mem_singleton.1 hx] at h
       exact h.2 ▸ hin
    have := xlS office logs tm dl r (done ++ [c]) ks hn hk'
    simpa [List.append_assoc] using this
   ·have e : xkK office logs tm dl (ks.map (mkG office logs tm dl done)) c = (ks ++ [kOf c]).map (mkG office logs tm dl (done ++ [c])) := by
     unfold xkK
     rw [hs, cond_false, hany, decide_eq_false hin, cond_false, List.map_append]
     congr 1
     ·exact List.map_congr_left fun k hk' => (emk k (.inr fun h => hin (h ▸ hk'))).symm
     ·show [[col c 0, col c 1, b2 (b2 (!xu5 (col c 1) (-1) office) != 0), b2 (true && offF logs c)]] = [mkG office logs tm dl (done ++ [c]) (kOf c)]
      rw [b2_b]
      unfold mkG
      have hall : (done.all fun c' => !(cntF logs tm dl c' && decide (kOf c' = kOf c)) || offF logs c') = true := by
       rw [List.all_eq_true]
       intro x hx
       cases h1 : cntF logs tm dl x with
       | false => rfl
       | true =>
        have : ¬ kOf x = kOf c := fun h => hin ((hk _).2 ⟨x, hx, h1, h⟩)
        rw [decide_eq_false this]; rfl
      rw [List.all_append, List.all_cons, List.all_nil, hall, hc, decide_eq_true rfl]
      simp [kOf]
    rw [e]
    have hk' : ∀ k, k ∈ ks ++ [kOf c] ↔ ∃ x ∈ done ++ [c], cntF logs tm dl x = true ∧ kOf x = k := fun k => by
     rw [List.mem_append, hk, List.mem_singleton]
     constructor
     ·rintro (⟨x, hx, h⟩ | h)
      ·exact ⟨x, List.mem_append.2 (.inl hx), h⟩
      ·exact ⟨c, by simp, hc, h.symm⟩
     ·rintro ⟨x, hx, h⟩
      rcases List.mem_append.1 hx with hx | hx
      ·exact .inl ⟨x, hx, h⟩
      ·rw [List.mem_singleton.1 hx] at h
       exact .inr h.2.symm
    have hn' : (ks ++ [kOf c]).Nodup := List.nodup_append.2 ⟨hn, by simp, fun a ha b hb e => hin (by rw [List.mem_singleton.1 hb] at e; exact e ▸ ha)⟩
    have := xlS office logs tm dl r (done ++ [c]) (ks ++ [kOf c]) hn' hk'
    simpa [List.append_assoc] using this
theorem xqk (office : List (List Int)) (logs : List ALog) (tm dl : Int) (list : List (List Int)) : ∃ ks : List Key, ks.Pairwise ltK ∧ (∀ k, k ∈ ks ↔ ∃ c ∈ list, cntF logs tm dl c = true ∧ kOf c = k) ∧ xd2 office logs tm dl list = ks.map (mkG office logs tm dl list) := by
 obtain ⟨ks, h1, h2, h3⟩ := xlS office logs tm dl list [] [] List.nodup_nil (by simp)
 have h2 : ∀ k, k ∈ ks ↔ ∃ c ∈ list, cntF logs tm dl c = true ∧ kOf c = k := h2
 have h3 : list.foldl (xkK office logs tm dl) [] = ks.map (mkG office logs tm dl list) := h3
 have hp := xgr (le := leL [0, 1]) (ks.map (mkG office logs tm dl list))
 have hsort := xg2 (xed [0, 1]) (xec [0, 1]) (ks.map (mkG office logs tm dl list))
 have hmem : ∀ g ∈ xeY (leL [0, 1]) (ks.map (mkG office logs tm dl list)), mkG office logs tm dl list (kOf g) = g ∧ kOf g ∈ ks := fun g hg => by
  obtain ⟨k, hk, rfl⟩ := List.mem_map.1 (hp.mem_iff.1 hg)
  exact ⟨rfl, hk⟩
 have hks : ((xeY (leL [0, 1]) (ks.map (mkG office logs tm dl list))).map kOf).Perm ks := by
  have := hp.map kOf
  rw [List.map_map] at this
  have e : ks.map (kOf ∘ mkG office logs tm dl list) = ks := (List.map_congr_left fun k _ => rfl).trans (List.map_id ks)
  rwa [e] at this
 refine ⟨(xeY (leL [0, 1]) (ks.map (mkG office logs tm dl list))).map kOf, ?_, fun k => by rw [hks.mem_iff, h2], ?_⟩
 ·have hnd : ((xeY (leL [0, 1]) (ks.map (mkG office logs tm dl list))).map kOf).Nodup := hks.nodup_iff.2 h1
  rw [List.pairwise_map]
  have hne : (xeY (leL [0, 1]) (ks.map (mkG office logs tm dl list))).Pairwise fun a b => kOf a ≠ kOf b := by
   rw [← List.pairwise_map]
   exact hnd
  refine (List.Pairwise.and hsort hne).imp fun {a b} h => ?_
  obtain ⟨h1, h2⟩ := h
  unfold leL at h1
  show col a 0 < col b 0 ∨ (col a 0 = col b 0 ∧ col a 1 < col b 1)
  by_cases e0 : a.getD 0 0 = b.getD 0 0
  ·rw [if_pos e0] at h1
   unfold leL at h1
   by_cases e1 : a.getD 1 0 = b.getD 1 0
   ·exact absurd (Prod.ext e0 e1) h2
   ·rw [if_neg e1] at h1
    exact .inr ⟨e0, of_decide_eq_true h1⟩
  ·rw [if_neg e0] at h1
   exact .inl (of_decide_eq_true h1)
 ·unfold xd2 xlj
  rw [h3, List.map_map]
  refine List.map_congr_left fun g hg => ?_
  obtain ⟨e, _⟩ := hmem g hg
  show xk5 g = mkG office logs tm dl list (kOf g)
  rw [e]
  rw [← e]
  show [_, _, b2 (b2 _ != 0), b2 (b2 _ != 0)] = _
  rw [b2_b, b2_b]
  rfl
def xs3 (gs : List (List Int)) : Prop := ∀ g ∈ gs, xk5 g = g
theorem xlQ {office : List (List Int)} {logs : List ALog} {tm dl : Int} {list : List (List Int)} (hch : chF list = true) : xcK (xd2 office logs tm dl list) ∧ xs3 (xd2 office logs tm dl list) ∧ (xd2 office logs tm dl list).length ≤ list.length := by
 obtain ⟨ks, h1, h2, h3⟩ := xqk office logs tm dl list
 obtain ⟨hlen, hcs⟩ := xqw hch
 rw [h3]
 refine ⟨fun g hg => ?_, fun g hg => ?_, ?_⟩
 ·obtain ⟨k, hk, rfl⟩ := List.mem_map.1 hg
  obtain ⟨c, hc, _, rfl⟩ := (h2 k).1 hk
  have := hcs c hc
  show 0 ≤ col c 0 ∧ col c 0 ≤ 8
  omega
 ·obtain ⟨k, hk, rfl⟩ := List.mem_map.1 hg
  show [_, _, b2 (b2 _ != 0), b2 (b2 _ != 0)] = _
  rw [b2_b, b2_b]
  rfl
 ·have hl : ∀ (l : List (List Int)) (gs : List (List Int)), (l.foldl (xkK office logs tm dl) gs).length ≤ gs.length + l.length := by
   intro l
   induction l with
   | nil => intro gs; simp
   | cons c r ih =>
    intro gs
    rw [List.foldl_cons]
    refine Nat.le_trans (ih _) ?_
    have : (xkK office logs tm dl gs c).length ≤ gs.length + 1 := by
     unfold xkK
     cases xs9 logs tm dl c
     ·rw [cond_false]
      cases gs.any (xeI c)
      ·rw [cond_false]; simp
      ·rw [cond_true]; simp
     ·rw [cond_true]; omega
    simp only [List.length_cons]
    omega
  rw [← h3]
  unfold xd2 xlj
  rw [List.length_map, xef]
  simpa using hl list []
end Go.Proofs.YtikhnofbbcmpeaaGreat
set_option linter.unusedVariables false
set_option maxRecDepth 100000
namespace Go.Proofs.YtikhnofbbcmpeaaGreat
open Go Go.Sy
def apF (g h : List Int) : Bool := !(col g 0 == col h 0 && (col g 1 == col h 1 && true)) && !((col g 2 != 0) && (col h 2 != 0) && col g 1 == col h 1) && !((col g 3 != 0) && (col h 3 != 0) && col g 0 == col h 0)
noncomputable def goP (k : Int → List (List Int) → List (List Int)) (n : Int) : List (List Int) → List (List Int)
 | [] => []
 | g :: r => if ((fewF (r.filter (apF g))).length : Int) = n - 1 then [col g 0, col g 1] :: k (n - 1) (r.filter (apF g)) else goP k n r
noncomputable def prF : Nat → Int → List (List Int) → List (List Int)
 | 0, _, _ => []
 | m + 1, n, list => if n = 0 then [] else goP (prF m) n list
theorem xqj {k : Int → List (List Int) → List (List Int)} (hk : ∀ n l, (k n l).length ≤ l.length) (n : Int) : ∀ l, (goP k n l).length ≤ l.length
 | [] => Nat.le_refl _
 | g :: r => by
  unfold goP
  split
  ·have h1 := hk (n - 1) (r.filter (apF g))
   have h2 := List.length_filter_le (apF g) r
   simp only [List.length_cons]
   omega
  ·have := xqj hk n r
   simp only [List.length_cons]
   omega
theorem xp7 : ∀ (m : Nat) (n : Int) (l : List (List Int)), (prF m n l).length ≤ l.length
 | 0, _, _ => Nat.zero_le _
 | m + 1, n, l => by
  unfold prF
  split
  ·exact Nat.zero_le _
  ·exact xqj (xp7 m) n l
theorem xyX {pr : Int → List (List Int) → Prop} {g : Int → List (List Int) → List (List Int)} {n : Int} {list : List (List Int)} (hok : xs3 list) (hl : list.length ≤ 1000000) {i : Nat} (hi : i < list.length) :
  xaH (xeN pr g n list [.i i]) (xkQ pr g n list [.i i]) ∧ gr (xoE pr g n list [.i i]).snd 1 = (list.drop (i + 1)).filter (apF list[i]) := by
 have hw : IntKind.i64.wrap ((i : Int) + 1) = ((i + 1 : Nat) : Int) := xeo (by omega)
 have hld : (list.drop (i + 1)).length = list.length - (i + 1) := List.length_drop
 obtain ⟨h1, h2⟩ := xdE (step := xeN pr g n list [.i i]) (list.drop (i + 1)) (fun j (s : List (List Int)) => [.i j, .r s]) (fun s x => .inl (if apF list[i] x = true then s ++ [x] else s)) (fun j s => s.length ≤ j) (fun s => (2, [.i ((list.drop (i + 1)).length : Nat), .r s])) 0
  (fun j s hj _ hI => by
   have hj' : i + 1 + j < list.length := by omega
   have he : (list.drop (i + 1))[j] = list[i + 1 + j] := List.getElem_drop
   have hfit : ∀ x : List Int, xbJ 24 (s.length + [x].length) := fun x => by unfold xbJ maxLen; simp only [List.length_cons, List.length_nil]; omega
   refine ⟨?_, fun s' hs' => by cases hs'; exact Nat.le_trans (xsj _ _ _) (by omega)⟩
   rw [he]
   have hn := hok _ (List.getElem_mem hj')
   unfold xeN xv6 xv5 xyd xyf xye
   simp only [gi_z, gr_1, gr_z, hw, xas, loN, shI, Int.toNat_natCast, xeo (show j < 9223372036854775807 by omega)]
   rw [decide_eq_true (by omega), cond_true, xaa (by omega), xaa (by unfold inR; omega), show (((i + 1 : Nat) : Int) + (j : Int)).toNat = i + 1 + j by omega, xbO hj', xbO hi, xaa (hfit _)]
   have hn' : [list[i + 1 + j].getD 0 0, list[i + 1 + j].getD 1 0, bif list[i + 1 + j].getD 2 0 != 0 then 1 else 0, bif list[i + 1 + j].getD 3 0 != 0 then 1 else 0] = list[i + 1 + j] := hn
   rw [hn']
   show (bif apF list[i] list[i + 1 + j] then _ else _) = _
   cases apF list[i] list[i + 1 + j]
   ·rw [if_neg (by decide)]; rfl
   ·rw [if_pos rfl]; rfl)
  (fun j s hj _ => by
   have : j = (list.drop (i + 1)).length := by omega
   subst this
   unfold xeN xv6
   simp only [gi_z, gr_1, gr_z, hw, xas, loN, Int.toNat_natCast, hld]
   rw [decide_eq_false (by omega)]; rfl) (s := []) (Nat.zero_le _)
 refine ⟨h1, ?_⟩
 have : xoE pr g n list [.i i] = xaw (xeN pr g n list [.i i]) [.i ((0 : Nat) : Int), .r []] := rfl
 rw [this, h2, List.drop_zero, xgY, xhb, List.nil_append]
 show gr [.i _, .r (((list.drop (i + 1)).filter (apF list[i])).map fun x => x)] 1 = _
 rw [gr_1, gr_z, List.map_id']
theorem xyb : ∀ (k n : Nat) (list : List (List Int)), n < k → n ≤ 1000000 → xcK list → xs3 list → list.length ≤ 1000000 → (prx k).1 n list ∧ (prx k).2 n list = prF k n list
 | 0, n, list, hn, _, _, _, _ => by omega
 | k + 1, n, list, hn, hnb, hs, hok, hl => by
  show xte (prx k).1 (prx k).2 n list ∧ xxH (prx k).1 (prx k).2 n list = prF (k + 1) n list
  by_cases h0 : n = 0
  ·subst h0
   exact ⟨(fun h => by cases h), rfl⟩
  ·have hn0 : ((n : Int) == 0) = false := by simpa using h0
   have key : ∀ m i, i + m = list.length → ∃ q r, xgG (xfD (prx k).1 (prx k).2 n list) q [.i i] = some r ∧ (bif r.1.beq 1 then gr r.2 0 else []) = goP (prF k) n (list.drop i) := by
    intro m
    induction m with
    | zero =>
     intro i hi
     have hi : i = list.length := by omega
     subst hi
     refine ⟨1, (3, [.i list.length]), xiu ?_, ?_⟩
     ·unfold xfD
      simp only [gi_z, dnlt]
     ·rw [List.drop_length]; rfl
    | succ m ih =>
     intro i hi
     have hi' : i < list.length := by omega
     have hw : IntKind.i64.wrap ((i : Int) + 1) = ((i + 1 : Nat) : Int) := xeo (by omega)
     have hwn : IntKind.i64.wrap ((n : Int) - 1) = ((n - 1 : Nat) : Int) := by rw [xgl (by omega)]; omega
     obtain ⟨q1, q2⟩ := xyX (pr := (prx k).1) (g := (prx k).2) (n := (n : Int)) hok hl hi'
     have hsub : ∀ x ∈ (list.drop (i + 1)).filter (apF list[i]), x ∈ list := fun x hx => List.mem_of_mem_drop (List.mem_filter.1 hx).1
     have hlr : ((list.drop (i + 1)).filter (apF list[i])).length ≤ 1000000 := Nat.le_trans (List.length_filter_le _ _) (by rw [List.length_drop]; omega)
     have hs' : xcK ((list.drop (i + 1)).filter (apF list[i])) := fun x hx => hs x (hsub x hx)
     have hok' : xs3 ((list.drop (i + 1)).filter (apF list[i])) := fun x hx => hok x (hsub x hx)
     obtain ⟨f1, f2⟩ := xsD hs' hlr
     obtain ⟨p1, p2⟩ := xyb k (n - 1) _ (by omega) (by omega) hs' hok' hlr
     have hplen := xp7 k ((n - 1 : Nat) : Int) ((list.drop (i + 1)).filter (apF list[i]))
     have hstep : xfD (prx k).1 (prx k).2 n list [.i i] = if ((fewF ((list.drop (i + 1)).filter (apF list[i]))).length : Int) = n - 1 then some (1, [.r ([col list[i] 0, col list[i] 1] :: prF k (n - 1) ((list.drop (i + 1)).filter (apF list[i])))]) else some (0, [.i ((i + 1 : Nat) : Int)]) := by
      unfold xfD xyc
      simp only [gi_z, hw, hwn]
      rw [q2, f2, p2, dlt hi', xaa (xa0 hi'), xaa (xa0 hi'), xaa (by omega), xaa q1, xaa f1, xaa p1, xbl hi',
       xaa (by unfold xbJ maxLen; simp only [List.length_cons, List.length_nil]; omega)]
      have en : ((n - 1 : Nat) : Int) = (n : Int) - 1 := by omega
      rw [en]
      by_cases h : ((fewF ((list.drop (i + 1)).filter (apF list[i]))).length : Int) = n - 1
      ·rw [if_pos h, h, beq_self_eq_true, cond_true]; rfl
      ·rw [if_neg h, bne h]; rfl
     rw [List.drop_eq_getElem_cons hi']
     unfold goP
     by_cases h : ((fewF ((list.drop (i + 1)).filter (apF list[i]))).length : Int) = n - 1
     ·rw [if_pos h] at hstep
      rw [if_pos h]
      refine ⟨1, _, xiu hstep, ?_⟩
      exact gr_z _ []
     ·rw [if_neg h] at hstep
      rw [if_neg h]
      obtain ⟨q, r, h1, h2⟩ := ih (i + 1) (by omega)
      exact ⟨q + 1, r, xhS hstep h1, h2⟩
   obtain ⟨q, r, h1, h2⟩ := key list.length 0 (by omega)
   have hinit : xkR (prx k).1 (prx k).2 n list = [.i ((0 : Nat) : Int)] := rfl
   obtain ⟨g1, g2⟩ := xkX h1
   refine ⟨fun _ => by rw [hinit]; exact g1, ?_⟩
   unfold xxH xv7
   rw [hn0, cond_false, hinit, g2]
   show _ = if (n : Int) = 0 then [] else goP (prF k) n list
   rw [if_neg (by omega)]
   exact h2
theorem xhk (b : Bool) : (!!b) = b := by cases b <;> rfl
def xd3 (gs : List (List Int)) : List (List Int) := gs.map fun g => [col g 0, col g 1]
theorem xzv {ow t delay : Int} {office ships list : List (List Int)} (ho : office.length ≤ 9223372036854775807) (hs : ships.length ≤ 9223372036854775807) (hl : list.length ≤ 9223372036854775807) (hd : xt5 ships) :
  xcH ow t delay office ships list ∧ xdL ow t delay office ships list = (if xja ow t delay office (xaF ships) list = true then xd3 (xd2 office (xaF ships) t delay list) else []) ∧ xdK ow t delay office ships list = if xja ow t delay office (xaF ships) list = true then 0 else 1 := by
 have hv := xe0 ow office ho
 have hc := xif list hl
 obtain ⟨o1, o2, o3⟩ := xum (ow := ow) (t := t) (delay := delay) (office := office) (list := list) hs hd
 unfold xcH xdL xjF xjG xdK xjD xjE
 rw [xrC ho hl, xtP]
 cases h1 : xgU ow t delay office list with
 | false => exact ⟨⟨hv.1, fun _ => hc.1, fun h => by cases h⟩, rfl, rfl⟩
 | true =>
  cases h2 : risF 0 (xaF ships) with
  | false =>
   have e := o3 h2
   rw [e]
   exact ⟨⟨hv.1, fun _ => hc.1, fun _ => ⟨o1, fun h => by cases h⟩⟩, rfl, rfl⟩
  | true =>
   obtain ⟨e, er⟩ := o2 h2
   obtain ⟨p1, p2⟩ := xwg (ow := ow) (t := t) (delay := delay) (office := office) hl hs hd h2
   obtain ⟨g1, g2⟩ := xtE (t := t) ho h1 h2
   rw [e, xhk, p2]
   rw [show (xao ow t delay office ships list).snd = (xao ow t delay office ships list).2 from rfl, er]
   cases h3 : list.any (xne (xaF ships)) with
   | true => exact ⟨⟨hv.1, fun _ => hc.1, fun _ => ⟨o1, fun _ => ⟨p1, fun h => by cases h⟩⟩⟩, rfl, rfl⟩
   | false =>
    have hch : chF list = true := by
     unfold xgU at h1
     simp only [Bool.and_eq_true] at h1
     exact h1.1.1.1.2
    obtain ⟨k1, k2, k3⟩ := xlQ (office := office) (logs := xaF ships) (tm := t) (dl := delay) hch
    have hl200 := (xqw hch).1
    obtain ⟨q1, q2⟩ := xdE (step := xb4 ow t delay office ships list) (xd2 office (xaF ships) t delay list) (fun i (s : List (List Int)) => [.i i, .r s]) (fun s x => .inl (s ++ [[col x 0, col x 1]])) (fun i s => s.length ≤ i) (fun s => (1, [.i ((xd2 office (xaF ships) t delay list).length : Nat), .r s])) 0
     (fun i s hi _ hI => by
      refine ⟨?_, fun s' hs' => by cases hs'; simp; exact hI⟩
      unfold xb4 xgK
      simp only [gi_z, gr_1, gr_z]
      rw [show (xao ow t delay office ships list).snd = (xao ow t delay office ships list).2 from rfl, er, g2, dlt hi, xaa (xa0 hi), xaa (xa0 hi), xbl hi, xeo (by omega), xaa (by unfold xbJ maxLen; simp only [List.length_cons, List.length_nil]; omega)]
      rfl)
     (fun i s hi _ => by
      have : i = (xd2 office (xaF ships) t delay list).length := by omega
      subst this
      unfold xb4
      simp only [gi_z, gr_1, gr_z]
      rw [show (xao ow t delay office ships list).snd = (xao ow t delay office ships list).2 from rfl, er, g2, dnlt]) (s := []) (Nat.zero_le _)
    refine ⟨⟨hv.1, fun _ => hc.1, fun _ => ⟨o1, fun _ => ⟨p1, fun _ => ⟨g1, q1⟩⟩⟩⟩, ?_, rfl⟩
    have el : xjI ow t delay office ships list = xaw (xb4 ow t delay office ships list) [.i ((0 : Nat) : Int), .r []] := rfl
    have ef : ∀ (l s : List (List Int)), l.foldl (fun s x => s ++ [[col x 0, col x 1]]) s = s ++ xd3 l := by
     intro l
     induction l with
     | nil => intro s; simp [xd3]
     | cons x r ih => intro s; rw [List.foldl_cons, ih]; simp [xd3]
    rw [el, q2, List.drop_zero, xgY, ef, List.nil_append]
    show gr [U.i ((xd2 office (xaF ships) t delay list).length : Nat), U.r (xd3 (xd2 office (xaF ships) t delay list))] 1 = xd3 (xd2 office (xaF ships) t delay list)
    rw [gr_1, gr_z]
theorem xo7 (list : List (List Int)) : (fewF list).length ≤ (byF 0 list).length := by
 have : ∀ n, (upto (xdA list) n (byF 0 list)).length ≤ (byF 0 list).length := by
  intro n
  induction n with
  | zero => exact Nat.le_refl _
  | succ n ih =>
   have e : upto (xdA list) (n + 1) (byF 0 list) = xdA list n (upto (xdA list) n (byF 0 list)) := rfl
   rw [e]
   generalize upto (xdA list) n (byF 0 list) = b at *
   unfold xdA
   split
   ·split
    ·rename_i hb
     unfold xey at hb
     simp only [Bool.or_eq_true, Bool.and_eq_true, decide_eq_true_eq, beq_iff_eq] at hb
     rcases hb with hb | hb
     ·omega
     ·have := hb.1; omega
    ·exact ih
   ·exact ih
 exact this _
theorem xqB {ow t delay : Int} {office ships list : List (List Int)} (ho : office.length ≤ 9223372036854775807) (hs : ships.length ≤ 9223372036854775807) (hl : list.length ≤ 9223372036854775807) (hd : xt5 ships) (h90 : list.length ≤ 90 ∨ 200 < list.length) :
  xbr ow t delay office ships list ∧ xaZ ow t delay office ships list = (if xja ow t delay office (xaF ships) list = true then fewF (xd2 office (xaF ships) t delay list) else []) ∧
  xa8 ow t delay office ships list = (if xja ow t delay office (xaF ships) list = true then prF 100 ((fewF (xd2 office (xaF ships) t delay list)).length : Nat) (xd2 office (xaF ships) t delay list) else []) ∧
  xbv ow t delay office ships list = if xja ow t delay office (xaF ships) list = true then 0 else 1 := by
 have hv := xe0 ow office ho
 have hc := xif list hl
 obtain ⟨o1, o2, o3⟩ := xum (ow := ow) (t := t) (delay := delay) (office := office) (list := list) hs hd
 have es0 : xdy ow t delay office ships list = xbb ow t delay office ships list := rfl
 have ei0 : xdz ow t delay office ships list = xb5 ow t delay office ships list := rfl
 have el0 : xaI ow t delay office ships list = xao ow t delay office ships list := rfl
 have es1 : xdw ow t delay office ships list = xba ow t delay office ships list := rfl
 have ei1 : xdx ow t delay office ships list = xcN ow t delay office ships list := rfl
 have el1 : xbk ow t delay office ships list = xbD ow t delay office ships list := rfl
 unfold xbr xaZ xg9 xha xa8 xg7 xg8 xbv xg5 xg6
 rw [es0, ei0, el0, es1, ei1, el1, xrC ho hl, xtP]
 cases h1 : xgU ow t delay office list with
 | false => exact ⟨⟨hv.1, fun _ => hc.1, fun h => by cases h⟩, rfl, rfl, rfl⟩
 | true =>
  cases h2 : risF 0 (xaF ships) with
  | false =>
   have e := o3 h2
   rw [e]
   exact ⟨⟨hv.1, fun _ => hc.1, fun _ => ⟨o1, fun h => by cases h⟩⟩, rfl, rfl, rfl⟩
  | true =>
   obtain ⟨e, er⟩ := o2 h2
   obtain ⟨p1, p2⟩ := xwg (ow := ow) (t := t) (delay := delay) (office := office) hl hs hd h2
   obtain ⟨g1, g2⟩ := xtE (t := t) ho h1 h2
   rw [e, xhk, p2]
   rw [show (xao ow t delay office ships list).snd = (xao ow t delay office ships list).2 from rfl, er]
   cases h3 : list.any (xne (xaF ships)) with
   | true => exact ⟨⟨hv.1, fun _ => hc.1, fun _ => ⟨o1, fun _ => ⟨p1, fun h => by cases h⟩⟩⟩, rfl, rfl, rfl⟩
   | false =>
    have hch : chF list = true := by
     unfold xgU at h1
     simp only [Bool.and_eq_true] at h1
     exact h1.1.1.1.2
    obtain ⟨k1, k2, k3⟩ := xlQ (office := office) (logs := xaF ships) (tm := t) (dl := delay) hch
    have hl200 := (xqw hch).1
    have hl90 : list.length ≤ 90 := by omega
    obtain ⟨f1, f2⟩ := xsD k1 (by omega)
    have hfl : (fewF (xd2 office (xaF ships) t delay list)).length < 100 := by
     have h0 := xo7 (xd2 office (xaF ships) t delay list)
     have := xiJ 0 (xd2 office (xaF ships) t delay list)
     omega
    obtain ⟨x1, x2⟩ := xyb 100 (fewF (xd2 office (xaF ships) t delay list)).length _ hfl (by omega) k1 k2 (by omega)
    rw [g2, f2]
    exact ⟨⟨hv.1, fun _ => hc.1, fun _ => ⟨o1, fun _ => ⟨p1, fun _ => ⟨g1, f1, x1⟩⟩⟩⟩, rfl, x2, rfl⟩
end Go.Proofs.YtikhnofbbcmpeaaGreat
